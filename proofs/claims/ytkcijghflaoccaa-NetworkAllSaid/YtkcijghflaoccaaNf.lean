/- What happens to packets: the plain functions, and the words of the contracts. -/
import Derived.Test.YtkcijghflaoccaaNe
namespace Go.Proofs.Ytkcijghflaoccaa.Nw
open Go.RowKit Go.Proofs.Ytkcijghflaoccaa.Ow Go.Proofs.Ytkcijghflaoccaa.PNetworkAll
set_option linter.unusedVariables false
set_option linter.unusedSimpArgs false

/-- A list without one of its elements. -/
def cut (xs : List S39) (k : Nat) : List S39 := xs.take k ++ xs.drop (k + 1)
theorem cut_length {xs : List S39} {k : Nat} (h : k < xs.length) : (cut xs k).length = xs.length - 1 := by unfold cut; simp; omega
def spot (xs : List S39) (h : S34) : Nat := (modv h.f1 xs.length).toNat
def forged (x : S39) (h : S34) : S39 := ⟨x.f0, x.f1, forge x.f2 h.f2 h.f3⟩
/-- What Do answers of a list of packets: the packets behind it, what is delivered, the error. -/
def doR (xs : List S39) (h : S34) : List S39 × List S39 × Int :=
  if h.f0 < 1 ∨ 5 < h.f0 then (xs, [], 56) else if xs.length = 0 then (xs, [], 5) else
  let k := spot xs h
  let x := xs.getD k z39
  if h.f0 = 1 then (cut xs k, [x], 0) else if h.f0 = 2 then (cut xs k, [], 0) else if h.f0 = 3 then (xs ++ [x], [], 0) else if h.f0 = 4 then (cut xs k ++ [x], [], 0) else (xs.set k (forged x h), [], 0)

theorem spot_at {xs : List S39} {h : S34} (hx : xs.length ≠ 0) : modv h.f1 xs.length = (spot xs h : Int) ∧ spot xs h < xs.length ∧ xs[spot xs h]? = some (xs.getD (spot xs h) z39) := by
  have b := modv_bd h.f1 xs.length (by omega)
  have e : ((modv h.f1 xs.length).toNat : Int) = modv h.f1 xs.length := Int.toNat_of_nonneg b.1
  have hlt : spot xs h < xs.length := by unfold spot; omega
  refine ⟨e.symm, hlt, ?_⟩
  rw [List.getD_eq_getElem?_getD, List.getElem?_eq_getElem hlt]
  rfl

/-- A network, packets that are delivered, an error code. -/
def DoIs (w : World) (e : Ending) (w' : World) (p : Int) (r : List S39 × List S39 × Int) : Prop :=
  ∃ A c A' c', e = .returned (.tuple #[.agg #[.int .i64 p, .slice A r.1.length c], .slice A' r.2.1.length c', .int .i64 r.2.2]) ∧ Own dk 39 w' w.heap.size (.slice A r.1.length c) r.1 ∧
    Rd dk w' (.slice A' r.2.1.length c') r.2.1 ∧ (∀ k, (Value.slice A' r.2.1.length c').ownBlock = some k → w.heap.size ≤ k) ∧ Below w.heap.size w w'

theorem do_mk {w w' : World} {p code : Int} {ys zs : List S39} {A A' : Option Addr} {n c n' c' : Nat} (h1 : ys.length = n) (h2 : zs.length = n') (ho : Own dk 39 w' w.heap.size (.slice A n c) ys)
    (hr : Rd dk w' (.slice A' n' c') zs) (hb : ∀ k, (Value.slice A' n' c').ownBlock = some k → w.heap.size ≤ k) (hw : Below w.heap.size w w') :
    DoIs w (.returned (.tuple #[.agg #[.int .i64 p, .slice A n c], .slice A' n' c', .int .i64 code])) w' p (ys, zs, code) := by
  subst h1; subst h2
  exact ⟨A, c, A', c', rfl, ho, hr, hb, hw⟩

/-- 'without', its length written out. -/
theorem cut_any (k : Nat) (A : Option Addr) (n c : Nat) (xs : List S39) (w : World) (hr : Rd dk w (.slice A n c) xs) (hl : xs.length ≤ 1000000) (hk : k < xs.length) :
    Calls Try.prog 30 #[.slice A n c, .int .i64 k] w fun e w' => ∃ A' c', e = .returned (.slice A' (xs.length - 1) c') ∧ Own dk 39 w' w.heap.size (.slice A' (xs.length - 1) c') (cut xs k) ∧ Below w.heap.size w w' :=
  (without_any k A n c xs w hr hl hk).mono fun e w' ⟨A', c', he, ho, hb⟩ => by
    have e1 : (xs.take k ++ xs.drop (k + 1)).length = xs.length - 1 := cut_length hk
    rw [e1] at he ho
    exact ⟨A', c', he, ho, hb⟩

theorem rd_none (w : World) : Rd dk w (.slice none 0 0) [] := .inl ⟨rfl, rfl⟩
theorem none_block (B : Nat) : ∀ k, (Value.slice none 0 0).ownBlock = some k → B ≤ k := fun k hk => by simp [Value.ownBlock] at hk

/-- The field of one element of a list of the call's own is written. -/
theorem own_body {w : World} {B n c : Nat} {g : Nat} {xs : List S39} {x : S39} {k : Nat} (h : Own dk 39 w B (.slice (some ⟨g, 0, none⟩) n c) xs) (hx : xs[k]? = some x) (s : ByteArray) :
    Own dk 39 (w.setCell ⟨g, k * 3 + 2, none⟩ (.string s)) B (.slice (some ⟨g, 0, none⟩) n c) (xs.set k ⟨x.f0, x.f1, s⟩) := by
  have hl : n = xs.length := by
    have := h.rd.len
    exact this
  subst hl
  have hk := (List.getElem?_eq_some_iff.1 hx).1
  have hst := World.ownsRow.stored h (k * 3 + 2) (.string s)
  unfold Own
  rw [List.length_set]
  have e : (flat dk xs).set (k * 3 + 2) (.string s) = flat dk (xs.set k ⟨x.f0, x.f1, s⟩) := by
    have hsp : xs = xs.take k ++ (x :: xs.drop (k + 1)) := by
      obtain ⟨h1, h2⟩ := List.getElem?_eq_some_iff.1 hx
      rw [← h2, ← List.drop_eq_getElem_cons h1, List.take_append_drop]
    have htk : (xs.take k).length = k := by simp; omega
    rw [hsp]
    rw [List.set_append_right _ _ (by omega), htk, Nat.sub_self, List.set_cons_zero, flat_append, flat_append, flat_cons, flat_cons]
    rw [List.set_append_right _ _ (by rw [flat_length, htk]; show k * 3 ≤ _; omega), flat_length, htk]
    rw [show k * 3 + 2 - k * dk.sz = 2 from by show k * 3 + 2 - k * 3 = 2; omega]
    rfl
  rw [← e]
  exact hst.1
end Go.Proofs.Ytkcijghflaoccaa.Nw
