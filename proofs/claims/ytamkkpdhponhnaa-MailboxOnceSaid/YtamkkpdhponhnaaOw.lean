/- Words for lists of structs in memory: what a slice reads as, and what a slice of the call's own holds. -/
import Derived.Test.YtamkkpdhponhnaaProg
import Derived.Below
import Derived.Deep.Draws
import Derived.WalkKit
import Derived.KernelRfl
import Derived.Laws.OwnMore
import Derived.Laws.Slices
import Derived.Maps.AppendAt
import Derived.RegionTactic
namespace Go.Proofs.Ytamkkpdhponhnaa.Ow
open Go.RowKit
set_option linter.unusedVariables false
set_option linter.unusedSimpArgs false

/-- How an element stands in cells. -/
structure En (α : Type) where
  enc : α → List Value
  sz : Nat
  pos : 0 < sz
  len : ∀ x, (enc x).length = sz
  one : ∀ x u, u ∈ enc x → u.oneCell' = true

variable {α : Type} {d : En α}

def flat (d : En α) (xs : List α) : List Value := (xs.map d.enc).flatten
theorem flat_nil : flat d [] = [] := rfl
theorem flat_cons (x : α) (xs : List α) : flat d (x :: xs) = d.enc x ++ flat d xs := by simp [flat]
theorem flat_append (xs ys : List α) : flat d (xs ++ ys) = flat d xs ++ flat d ys := by simp [flat]
theorem flat_length (xs : List α) : (flat d xs).length = xs.length * d.sz := by
  induction xs with
  | nil => simp [flat]
  | cons x xs ih => rw [flat_cons, List.length_append, d.len, ih, List.length_cons, Nat.add_mul, Nat.one_mul, Nat.add_comm]
theorem flat_take (xs : List α) (k : Nat) : flat d (xs.take k) = (flat d xs).take (k * d.sz) := by
  induction xs generalizing k with
  | nil => simp [flat]
  | cons x xs ih =>
    cases k with
    | zero => simp [flat]
    | succ k =>
      rw [List.take_succ_cons, flat_cons, flat_cons, ih, Nat.add_mul, Nat.one_mul, Nat.add_comm (k * d.sz), ← d.len x, List.take_length_add_append]
theorem flat_drop (xs : List α) (k : Nat) : flat d (xs.drop k) = (flat d xs).drop (k * d.sz) := by
  induction xs generalizing k with
  | nil => simp [flat]
  | cons x xs ih =>
    cases k with
    | zero => simp [flat]
    | succ k =>
      rw [List.drop_succ_cons, flat_cons, ih, Nat.add_mul, Nat.one_mul, Nat.add_comm (k * d.sz), ← d.len x, List.drop_length_add_append]
theorem flat_one {xs : List α} {u : Value} (h : u ∈ flat d xs) : u.oneCell' = true := by
  simp only [flat, List.mem_flatten, List.mem_map] at h
  obtain ⟨l, ⟨x, _, rfl⟩, hu⟩ := h
  exact d.one x u hu
theorem flat_get {xs : List α} {i : Nat} {x : α} (h : xs[i]? = some x) {j : Nat} (hj : j < d.sz) : (flat d xs)[i * d.sz + j]? = (d.enc x)[j]? := by
  obtain ⟨hi, rfl⟩ := List.getElem?_eq_some_iff.1 h
  have e : xs.drop i = xs[i] :: xs.drop (i + 1) := List.drop_eq_getElem_cons hi
  have h1 : (flat d xs).drop (i * d.sz) = d.enc xs[i] ++ flat d (xs.drop (i + 1)) := by rw [← flat_drop, e, flat_cons]
  rw [← List.getElem?_drop, h1, List.getElem?_append_left (by rw [d.len]; exact hj)]

/-- A slice of the call's own, from block B on. -/
def Own (d : En α) (e : TypeId) (w : World) (B : Nat) (v : Value) (xs : List α) : Prop := w.ownsRow B e d.sz v xs.length (flat d xs)
/-- What a slice reads as. -/
def Rd (d : En α) (w : World) (v : Value) (xs : List α) : Prop :=
  (v = .slice none 0 0 ∧ xs = []) ∨ ∃ g o c, v = .slice (some ⟨g, o, none⟩) xs.length c ∧ xs.length ≤ c ∧ c ≤ maxLen ∧ g < w.heap.size ∧ ∀ j u, (flat d xs)[j]? = some u → w.cell? ⟨g, o + j, none⟩ = some u

theorem Own.nil (d : En α) (e : TypeId) (w : World) (B : Nat) : Own d e w B (.slice none 0 0) [] := World.ownsRow_nil _ _ _ _

theorem Own.form {e : TypeId} {w : World} {B : Nat} {v : Value} {xs : List α} (h : Own d e w B v xs) :
    (v = .slice none 0 0 ∧ xs = []) ∨ ∃ g c cur, v = .slice (some ⟨g, 0, none⟩) xs.length c ∧ xs.length ≤ c ∧ c ≤ maxLen ∧ B ≤ g ∧ g < w.heap.size ∧ w.heap[g]? = some (.cells cur e (0, 0)) ∧ cur.size = c * d.sz ∧ cur.toList.take (xs.length * d.sz) = flat d xs := by
  rcases h.2 with ⟨h1, h2⟩ | ⟨g, c, cur, h1, h2, h3, h4, h5, h6, h7⟩
  · exact .inl ⟨h1, List.eq_nil_of_length_eq_zero h2⟩
  · exact .inr ⟨g, c, cur, h1, h4, h5, h2, (Array.getElem?_eq_some_iff.1 h3).1, h3, h6, h7⟩

theorem Own.rd {e : TypeId} {w : World} {B : Nat} {v : Value} {xs : List α} (h : Own d e w B v xs) : Rd d w v xs := by
  rcases h.form with h1 | ⟨g, c, cur, h1, h2, h3, h4, h5, h6, h7, h8⟩
  · exact .inl h1
  · refine .inr ⟨g, 0, c, h1, h2, h3, h5, fun j u hu => ?_⟩
    have := World.ownsRow.cells h (g := g) (by rw [h1]; rfl) j u hu
    rw [Addr.add_lit] at this
    exact this

theorem Own.block {e : TypeId} {w : World} {B : Nat} {v : Value} {xs : List α} (h : Own d e w B v xs) : ∀ k, v.ownBlock = some k → B ≤ k ∧ k < w.heap.size := World.ownsRow.lt h

theorem Own.moved {e : TypeId} {w w' : World} {B : Nat} {v : Value} {xs : List α} (h : Own d e w B v xs) (hm : ∀ k, v.ownBlock = some k → w'.heap[k]? = w.heap[k]?) : Own d e w' B v xs := by
  refine ⟨h.1, ?_⟩
  rcases h.2 with h1 | ⟨g, c, cur, h1, h2, h3, h4⟩
  · exact .inl h1
  · exact .inr ⟨g, c, cur, h1, h2, by rw [hm g (by rw [h1]; rfl)]; exact h3, h4⟩

theorem Own.below {e : TypeId} {w w' : World} {B : Nat} {v : Value} {xs : List α} (h : Own d e w B v xs) (hb : Below w.heap.size w w') : Own d e w' B v xs :=
  h.moved fun k hk => hb.block k (h.block k hk).2
theorem Own.lower {e : TypeId} {w : World} {B B' : Nat} {v : Value} {xs : List α} (h : Own d e w B v xs) (hb : B' ≤ B) : Own d e w B' v xs := by
  refine ⟨h.1, ?_⟩
  rcases h.2 with h1 | ⟨g, c, cur, h1, h2, h3, h4⟩
  · exact .inl h1
  · exact .inr ⟨g, c, cur, h1, Nat.le_trans hb h2, h3, h4⟩
theorem Own.setCell {e : TypeId} {w : World} {B : Nat} {v : Value} {xs : List α} (h : Own d e w B v xs) {p : Addr} (hp : ∀ k, v.ownBlock = some k → k ≠ p.block) (u : Value) : Own d e (w.setCell p u) B v xs :=
  h.moved fun k hk => Below.heap_setCell _ _ _ _ (hp k hk)

theorem Rd.block {w : World} {v : Value} {xs : List α} (h : Rd d w v xs) : ∀ k, v.ownBlock = some k → k < w.heap.size := by
  rcases h with ⟨rfl, _⟩ | ⟨g, o, c, rfl, _, _, hg, _⟩
  · intro k hk; simp [Value.ownBlock] at hk
  · intro k hk; simp [Value.ownBlock] at hk; omega

theorem Rd.moved {w w' : World} {v : Value} {xs : List α} (h : Rd d w v xs) (hm : ∀ k, v.ownBlock = some k → w'.heap[k]? = w.heap[k]?) (hs : w.heap.size ≤ w'.heap.size) : Rd d w' v xs := by
  rcases h with h | ⟨g, o, c, rfl, h1, h2, h3, h4⟩
  · exact .inl h
  · refine .inr ⟨g, o, c, rfl, h1, h2, by omega, fun j u hu => ?_⟩
    rw [World.cell?_of_block (w := w) (hm g rfl)]
    exact h4 j u hu
theorem Rd.below {w w' : World} {v : Value} {xs : List α} (h : Rd d w v xs) (hb : Below w.heap.size w w') : Rd d w' v xs :=
  h.moved (fun k hk => hb.block k (h.block k hk)) hb.size
theorem Rd.grown {w w' : World} {v : Value} {xs : List α} {row : Option Nat} (h : Rd d w v xs) (hg : w.grownBy w' row) (hne : ∀ k, v.ownBlock = some k → row ≠ some k) : Rd d w' v xs :=
  h.moved (fun k hk => hg.block k (h.block k hk) (fun e => hne k hk e.symm)) hg.size
theorem Rd.setCell {w : World} {v : Value} {xs : List α} (h : Rd d w v xs) {p : Addr} (hp : ∀ k, v.ownBlock = some k → k ≠ p.block) (u : Value) : Rd d (w.setCell p u) v xs :=
  h.moved (fun k hk => Below.heap_setCell _ _ _ _ (hp k hk)) (by simp [World.setCell])
theorem Rd.nil (d : En α) (w : World) : Rd d w (.slice none 0 0) [] := .inl ⟨rfl, rfl⟩

/-- An element of a slice, cell by cell. -/
theorem Rd.at_ {w : World} {A : Option Addr} {n c : Nat} {xs : List α} (h : Rd d w (.slice A n c) xs) {i : Nat} {x : α} (hx : xs[i]? = some x) :
    ∃ g o, A = some ⟨g, o, none⟩ ∧ g < w.heap.size ∧ ∀ j u, (d.enc x)[j]? = some u → w.cell? ⟨g, o + i * d.sz + j, none⟩ = some u := by
  rcases h with ⟨_, rfl⟩ | ⟨g, o, c', h1, h2, h3, h4, h5⟩
  · simp at hx
  · simp only [Value.slice.injEq] at h1
    refine ⟨g, o, h1.1, h4, fun j u hu => ?_⟩
    have hj : j < d.sz := by
      have := (List.getElem?_eq_some_iff.1 hu).1
      rw [d.len] at this; exact this
    have := h5 (i * d.sz + j) u (by rw [flat_get hx hj]; exact hu)
    rw [← Nat.add_assoc] at this
    exact this

theorem Rd.len {w : World} {A : Option Addr} {n c : Nat} {xs : List α} (h : Rd d w (.slice A n c) xs) : n = xs.length := by
  rcases h with ⟨h1, rfl⟩ | ⟨g, o, c', h1, h2, h3, h4, h5⟩
  · simp at h1; simp [h1]
  · simp at h1; exact h1.2.1
theorem Rd.cap {w : World} {A : Option Addr} {n c : Nat} {xs : List α} (h : Rd d w (.slice A n c) xs) : n ≤ c ∧ c ≤ maxLen := by
  rcases h with ⟨h1, rfl⟩ | ⟨g, o, c', h1, h2, h3, h4, h5⟩
  · simp at h1; simp [h1, maxLen]
  · simp at h1; omega
theorem Rd.form {w : World} {v : Value} {xs : List α} (h : Rd d w v xs) : ∃ A c, v = .slice A xs.length c := by
  rcases h with ⟨rfl, rfl⟩ | ⟨g, o, c', rfl, h2, h3, h4, h5⟩
  · exact ⟨none, 0, rfl⟩
  · exact ⟨_, _, rfl⟩

theorem Rd.sliced {w : World} {A : Option Addr} {n c : Nat} {xs : List α} (h : Rd d w (.slice A n c) xs) {lo hi : Nat} (h0 : lo ≤ hi) (h1 : hi ≤ xs.length) : Rd d w (Go.sliced A lo hi c d.sz) ((xs.take hi).drop lo) := by
  rcases h with ⟨h1', rfl⟩ | ⟨g, o, c', h1', h2, h3, h4, h5⟩
  · simp at h1 h1'
    obtain ⟨rfl, rfl, rfl⟩ := h1'
    subst h1
    obtain rfl : lo = 0 := by omega
    left
    exact ⟨by simp [Go.sliced], by simp⟩
  · simp only [Value.slice.injEq] at h1'
    obtain ⟨rfl, rfl, rfl⟩ := h1'
    have hl : ((xs.take hi).drop lo).length = hi - lo := by simp; omega
    right
    by_cases e : c - lo = 0
    · refine ⟨g, o, c - lo, ?_, ?_⟩
      · unfold Go.sliced
        rw [hl]
        simp [show c = lo by omega]
      · have : (xs.take hi).drop lo = [] := List.eq_nil_of_length_eq_zero (by omega)
        rw [this]
        exact ⟨by simp, by omega, h4, fun j u hu => by simp [flat] at hu⟩
    · refine ⟨g, o + lo * d.sz, c - lo, ?_, by omega, by omega, h4, fun j u hu => ?_⟩
      · unfold Go.sliced
        rw [hl]
        simp [show ¬ c = lo by omega, Addr.add_lit]
      · rw [flat_drop, flat_take, List.getElem?_drop] at hu
        have := h5 (lo * d.sz + j) u (by
          rw [List.getElem?_take] at hu
          split at hu
          · exact hu
          · cases hu)
        rw [← Nat.add_assoc] at this
        exact this

/-- append of what a slice reads as, to a slice of the call's own. -/
theorem run_append_rd {P : Program} (w : World) (t ty e : TypeId) (i : TypeInfo) (z : Value) (bytes B : Nat) (ht : P.underlying t = some (.slice e)) (hi : P.info? e = some i) (hz : i.zero = some z)
    (hsize : i.size = d.sz) (hby : i.bytes = bytes) (hzs : z.cells.size = d.sz) {v x : Value} {xs ys : List α} (hown : Own d e w B v xs) (hr : Rd d w x ys)
    (hb : (xs.length + ys.length) * bytes ≤ 140737488355328) (hl : xs.length + ys.length ≤ maxLen) (hB : B ≤ w.heap.size) :
    ∃ v' w', (Builtin.append_ #[t, t] ty #[v, x]).run P w = .ok v' w' ∧ Own d e w' B v' (xs ++ ys) ∧ w.grownBy w' v.ownBlock ∧ (v'.ownBlock = v.ownBlock ∨ v'.ownBlock = some w.heap.size) := by
  rcases hr with ⟨rfl, rfl⟩ | ⟨g, o, c, rfl, h1, h2, h3, h4⟩
  · refine ⟨v, w, run_append_owned_none (P := P) (w := w) B t ty e i d.sz ht hi v xs.length (flat d xs) hown, ?_, ⟨rfl, rfl, rfl, Nat.le_refl _, fun _ _ _ => rfl⟩, .inl rfl⟩
    rw [List.append_nil]; exact hown
  · obtain ⟨v', w', a1, a2, a3, _, a5⟩ := run_append_own_at (P := P) w B t ty e i z d.sz bytes ht hi hz hsize hby hzs d.pos v xs.length (flat d xs) hown ⟨g, o, none⟩ ys.length c (flat d ys) (flat_length ys)
      (fun j u hu => by rw [Addr.add_lit]; exact h4 j u hu) (fun u hu => flat_one hu) hl hb hB
    refine ⟨v', w', a1, ?_, a3, a5⟩
    unfold Own
    rw [List.length_append, flat_append]
    exact a2

/-- The same at a list of operations. -/
theorem wpList_append_rd {P : Program} {w : World} {ops : Array Oper} {rest : List Oper} {o : Oper} {a : Act} {Q : Exit → Act → World → Prop} (hgd : o.guard = none) (s x : Operand) (t : TypeId)
    (ho : o.op = .call { callee := .builtin .append, args := #[s, x], argTypes := #[t, t] })
    (e : TypeId) (i : TypeInfo) (z : Value) (bytes B : Nat) (ht : P.underlying t = some (.slice e)) (hi : P.info? e = some i) (hz : i.zero = some z)
    (hsize : i.size = d.sz) (hby : i.bytes = bytes) (hzs : z.cells.size = d.sz) {v y : Value} {xs ys : List α} (hs : a.eval s = v) (hown : Own d e w B v xs) (hx : a.eval x = y) (hr : Rd d w y ys)
    (hb : (xs.length + ys.length) * bytes ≤ 140737488355328) (hl : xs.length + ys.length ≤ maxLen) (hB : B ≤ w.heap.size)
    (m : Nat) (hm : (xs ++ ys).length = m)
    (h : ∀ A' c' w', Own d e w' B (.slice A' m c') (xs ++ ys) → w.grownBy w' v.ownBlock → ((Value.slice A' m c').ownBlock = v.ownBlock ∨ (Value.slice A' m c').ownBlock = some w.heap.size) → wpList P ops Q rest (a.put o.dst (.slice A' m c')) w') :
    wpList P ops Q (o :: rest) a w := by
  subst hm
  refine wpList_plain hgd fun K hK => ?_
  obtain ⟨v', w', hrun, h2, h3, h4⟩ := run_append_rd (P := P) w t o.type e i z bytes B ht hi hz hsize hby hzs hown hr hb hl hB
  obtain ⟨A', c', rfl⟩ := h2.rd.form
  unfold Oper.wp execOp
  simp only [ho, resolve, invoke, builtin, Sem.run_bind, Sem.run_pure, Result.andThen_ok, List.map_toArray, List.map_cons, List.map_nil, hs, hx, hrun]
  exact hK _ _ (h A' c' w' h2 h3 h4)

/-- The same at a step of a region whose order is open. -/
theorem step_append_rd {P : Program} {w : World} {ops : Array Oper} {o : Oper} {a : Act} {K : Act → World → Prop} {Q : Exit → Act → World → Prop} {E : Prop} (hgd : o.guard = none) (s x : Operand) (t : TypeId)
    (ho : o.op = .call { callee := .builtin .append, args := #[s, x], argTypes := #[t, t] })
    (e : TypeId) (i : TypeInfo) (z : Value) (bytes B : Nat) (ht : P.underlying t = some (.slice e)) (hi : P.info? e = some i) (hz : i.zero = some z)
    (hsize : i.size = d.sz) (hby : i.bytes = bytes) (hzs : z.cells.size = d.sz) {v y : Value} {xs ys : List α} (hs : a.eval s = v) (hown : Own d e w B v xs) (hx : a.eval x = y) (hr : Rd d w y ys)
    (hb : (xs.length + ys.length) * bytes ≤ 140737488355328) (hl : xs.length + ys.length ≤ maxLen) (hB : B ≤ w.heap.size)
    (m : Nat) (hm : (xs ++ ys).length = m)
    (h : ∀ A' c' w', Own d e w' B (.slice A' m c') (xs ++ ys) → w.grownBy w' v.ownBlock → ((Value.slice A' m c').ownBlock = v.ownBlock ∨ (Value.slice A' m c').ownBlock = some w.heap.size) → K (a.put o.dst (.slice A' m c')) w') :
    if Region.wanted o (yielded ops a.tmps) = true then Oper.wp P o a w K Q else E := by
  subst hm
  have hw : Region.wanted o (yielded ops a.tmps) = true := by simp [Region.wanted, hgd]
  rw [if_pos hw]
  obtain ⟨v', w', hrun, h2, h3, h4⟩ := run_append_rd (P := P) w t o.type e i z bytes B ht hi hz hsize hby hzs hown hr hb hl hB
  obtain ⟨A', c', rfl⟩ := h2.rd.form
  unfold Oper.wp execOp
  simp only [ho, resolve, invoke, builtin, Sem.run_bind, Sem.run_pure, Result.andThen_ok, List.map_toArray, List.map_cons, List.map_nil, hs, hx, hrun]
  exact h A' c' w' h2 h3 h4

/-! Worlds in which all that was there stands unturned. -/
section
variable {W w w' : World}
theorem bel_alloc (h : Below W.heap.size W w) (o : Obj) : Below W.heap.size W (w.alloc o) := h.alloc h.size _
theorem bel_set (h : Below W.heap.size W w) {p : Addr} (hp : W.heap.size ≤ p.block) (u : Value) : Below W.heap.size W (w.setCell p u) := h.setCell hp u
theorem bel_drew (h : Below W.heap.size W w) : Below W.heap.size W w.drew := h.drew
theorem bel_drewN (h : Below W.heap.size W w) (n : Nat) : Below W.heap.size W (w.drewN n) := ⟨h.os, h.tape, h.output, h.size, h.block⟩
theorem bel_step (h : Below W.heap.size W w) (k : Below w.heap.size w w') : Below W.heap.size W w' := h.trans (k.mono h.size)
theorem bel_grown {row : Option Nat} (h : Below W.heap.size W w) (hg : w.grownBy w' row) (hr : ∀ k, row = some k → W.heap.size ≤ k) : Below W.heap.size W w' := h.grown hg h.size hr
theorem bcell (hb : Below W.heap.size W w) : (∀ b o, b < W.heap.size → w.cell? ⟨b, o, none⟩ = W.cell? ⟨b, o, none⟩) ∧ (∀ b o, b < W.heap.size → w.frozen? ⟨b, o, none⟩ = W.frozen? ⟨b, o, none⟩) :=
  ⟨fun b o h => hb.cell (p := ⟨b, o, none⟩) h, fun b o h => hb.frozen (p := ⟨b, o, none⟩) h⟩
theorem grown_none (hg : w.grownBy w' none) : Below w.heap.size w w' := (Below.refl _ _).grown hg (Nat.le_refl _) (fun k hk => by cases hk)
theorem grown_cell {row : Option Nat} (hg : w.grownBy w' row) {b : Nat} (hb : b < w.heap.size) (hne : row ≠ some b) : (∀ o, w'.cell? ⟨b, o, none⟩ = w.cell? ⟨b, o, none⟩) ∧ (∀ o, w'.frozen? ⟨b, o, none⟩ = w.frozen? ⟨b, o, none⟩) :=
  ⟨fun o => World.cell?_of_block (w := w) (hg.block b hb (fun e => hne e.symm)), fun o => World.frozen?_of_block (w := w) (hg.block b hb (fun e => hne e.symm))⟩
theorem own_alloc {e : TypeId} {B : Nat} {v : Value} {xs : List α} (h : Own d e w B v xs) (o : Obj) : Own d e (w.alloc o) B v xs := h.below ((Below.refl _ _).alloc (Nat.le_refl _) _)
theorem own_drew {e : TypeId} {B : Nat} {v : Value} {xs : List α} (h : Own d e w B v xs) : Own d e w.drew B v xs := h
theorem own_drewN {e : TypeId} {B : Nat} {v : Value} {xs : List α} (h : Own d e w B v xs) (n : Nat) : Own d e (w.drewN n) B v xs := h
theorem block_at {v v' : Value} (hat : v'.ownBlock = v.ownBlock ∨ v'.ownBlock = some w.heap.size) (Q : Nat → Prop) (h1 : ∀ k, v.ownBlock = some k → Q k) (h2 : Q w.heap.size) : ∀ k, v'.ownBlock = some k → Q k := by
  intro k hk
  rcases hat with h | h
  · exact h1 k (h.symm.trans hk)
  · rw [hk] at h; cases h; exact h2
theorem rd_step {xs : List α} {v : Value} (h : Rd d W v xs) (hb : Below W.heap.size W w) : Rd d w v xs := h.below hb
/-- What was appended to, or made new, lies from B on. -/
theorem block_of {B : Nat} {v v' : Value} (hv : ∀ k, v.ownBlock = some k → B ≤ k) (hat : v'.ownBlock = v.ownBlock ∨ v'.ownBlock = some w.heap.size) (hB : B ≤ w.heap.size) : ∀ k, v'.ownBlock = some k → B ≤ k := by
  intro k hk
  rcases hat with h | h
  · exact hv k (by rw [← h]; exact hk)
  · rw [h] at hk; cases hk; exact hB
end

end Go.Proofs.Ytamkkpdhponhnaa.Ow
