/- Put, what it gives. -/
import Derived.Test.YtamkkpdhponhnaaPo
import Derived.Test.YtamkkpdhponhnaaPf
namespace Go.Proofs.Ytamkkpdhponhnaa.Nw
open Go.RowKit Go.Proofs.Ytamkkpdhponhnaa.Ow Go.Proofs.Ytamkkpdhponhnaa.PMailboxAll Go.Proofs.YtamkkpdhponhnaaW.PrintWords
set_option linter.unusedVariables false
set_option linter.unusedSimpArgs false

/-- A topic's next number goes up. -/
def bump (us : List S56) (k : Nat) : List S56 := us.set k ⟨(us.getD k z56).f0, wrap64 ((us.getD k z56).f1 + 1)⟩
/-- What Put gives: topics, letters, number, error. -/
def putR (ts : List S56) (ls : List S41) (p b : ByteArray) : List S56 × List S41 × Int × Int :=
  if nameP p = false then (ts, ls, 0, 55) else if (b.size : Int) > 65536 then (ts, ls, 0, 8)
  else if (ls.length : Int) ≥ 128 then (ts, ls, 0, 3)
  else if placeI ts p < 0 then (if (ts.length : Int) ≥ 16 then (ts, ls, 0, 3) else (bump (ts ++ [⟨p, 0⟩]) ts.length, ls ++ [⟨p, 0, b⟩], 0, 0))
  else (bump ts (placeI ts p).toNat, ls ++ [⟨p, (ts.getD (placeI ts p).toNat z56).f1, b⟩], (ts.getD (placeI ts p).toNat z56).f1, 0)
def PutIs (B : Nat) (w : World) (e : Ending) (w' : World) (r : List S56 × List S41 × Int × Int) : Prop :=
  ∃ A c A' c', e = .returned (.tuple #[.agg #[.slice A r.1.length c, .slice A' r.2.1.length c'], .int .i64 r.2.2.1, .int .i64 r.2.2.2]) ∧ Own dt 56 w' B (.slice A r.1.length c) r.1 ∧ Own dl 41 w' B (.slice A' r.2.1.length c') r.2.1 ∧
    (∀ k k', (Value.slice A r.1.length c).ownBlock = some k → (Value.slice A' r.2.1.length c').ownBlock = some k' → k ≠ k') ∧ Below B w w'
theorem put_mk {B : Nat} {w w' : World} {r : List S56 × List S41 × Int × Int} {A c A' c' ts ls n e} (hr : r = (ts, ls, n, e)) (h1 : Own dt 56 w' B (.slice A ts.length c) ts) (h2 : Own dl 41 w' B (.slice A' ls.length c') ls)
    (h3 : ∀ k k', (Value.slice A ts.length c).ownBlock = some k → (Value.slice A' ls.length c').ownBlock = some k' → k ≠ k') (h4 : Below B w w') :
    PutIs B w (.returned (.tuple #[.agg #[.slice A ts.length c, .slice A' ls.length c'], .int .i64 n, .int .i64 e])) w' r := by
  subst hr; exact ⟨A, c, A', c', rfl, h1, h2, h3, h4⟩
theorem own_next {w : World} {B n c : Nat} {g : Nat} {xs : List S56} {x : S56} {k : Nat} (h : Own dt 56 w B (.slice (some ⟨g, 0, none⟩) n c) xs) (hx : xs[k]? = some x) (s : Int) :
    Own dt 56 (w.setCell ⟨g, k * 2 + 1, none⟩ (.int .i64 s)) B (.slice (some ⟨g, 0, none⟩) n c) (xs.set k ⟨x.f0, s⟩) := by
  have hl : n = xs.length := by
    have := h.rd.len
    exact this
  subst hl
  have hk := (List.getElem?_eq_some_iff.1 hx).1
  have hst := World.ownsRow.stored h (k * 2 + 1) (.int .i64 s)
  unfold Own
  rw [List.length_set]
  have e : (flat dt xs).set (k * 2 + 1) (.int .i64 s) = flat dt (xs.set k ⟨x.f0, s⟩) := by
    have hsp : xs = xs.take k ++ (x :: xs.drop (k + 1)) := by
      obtain ⟨h1, h2⟩ := List.getElem?_eq_some_iff.1 hx
      rw [← h2, ← List.drop_eq_getElem_cons h1, List.take_append_drop]
    have htk : (xs.take k).length = k := by simp; omega
    rw [hsp]
    rw [List.set_append_right _ _ (by omega), htk, Nat.sub_self, List.set_cons_zero, flat_append, flat_append, flat_cons, flat_cons]
    rw [List.set_append_right _ _ (by rw [flat_length, htk]; show k * 2 ≤ _; omega), flat_length, htk]
    rw [show k * 2 + 1 - k * dt.sz = 1 from by show k * 2 + 1 - k * 2 = 1; omega]
    rfl
  rw [← e]
  exact hst.1
theorem own_grown {α : Type} {d : En α} {e : TypeId} {w w' : World} {B : Nat} {v : Value} {xs : List α} {row : Option Nat} (h : Own d e w B v xs) (hg : w.grownBy w' row) (hne : ∀ k, v.ownBlock = some k → row ≠ some k) : Own d e w' B v xs :=
  h.moved (fun k hk => hg.block k (h.block k hk).2 (fun e => hne k hk e.symm))
theorem rd_lit56 {w : World} {b : Nat} (x : S56) (hb : b < w.heap.size) (h0 : w.cell? ⟨b, 0, none⟩ = some (.string x.f0)) (h1 : w.cell? ⟨b, 1, none⟩ = some (.int .i64 x.f1)) :
    Rd dt w (.slice (some ⟨b, 0, none⟩) 1 1) [x] := by
  refine Or.inr ⟨b, 0, 1, rfl, Nat.le_refl _, by unfold maxLen; omega, hb, fun j u hj => ?_⟩
  match j, hj with
  | 0, hj => simp [flat, dt] at hj; subst hj; exact h0
  | 1, hj => simp [flat, dt] at hj; subst hj; exact h1
theorem own_cellT {w : World} {B n c : Nat} {A : Option Addr} {xs : List S56} {x : S56} {k : Nat} (ho : Own dt 56 w B (.slice A n c) xs) (hx : xs[k]? = some x) :
    ∃ g, A = some ⟨g, 0, none⟩ ∧ B ≤ g ∧ g < w.heap.size ∧ w.cell? ⟨g, k * 2 + 1, none⟩ = some (.int .i64 x.f1) ∧ w.frozen? ⟨g, k * 2 + 1, none⟩ = false := by
  have hk := (List.getElem?_eq_some_iff.1 hx).1
  rcases ho.form with ⟨h, h0⟩ | ⟨g1, c1', cur, hv, _, _, hB, hlt, hh, hs, ht⟩
  · subst h0; simp at hk
  · simp only [Value.slice.injEq] at hv
    obtain ⟨rfl, _, rfl⟩ := hv
    obtain ⟨g2, o2, e2, _, hc3⟩ := ho.rd.at_ hx
    simp only [Option.some.injEq, Addr.mk.injEq] at e2
    obtain ⟨rfl, rfl, _⟩ := e2
    have h3 := hc3 1 _ rfl
    refine ⟨g1, rfl, hB, hlt, ?_, frozen_of_row _ _ _ _ _ hh⟩
    rw [show 0 + k * dt.sz + 1 = k * 2 + 1 by show 0 + k * 2 + 1 = _; omega] at h3
    exact h3
theorem put_mk' {B : Nat} {w w' : World} {r : List S56 × List S41 × Int × Int} {A c A' c' ts ls n e N M} (hr : r = (ts, ls, n, e)) (hN : ts.length = N) (hM : ls.length = M) (h1 : Own dt 56 w' B (.slice A N c) ts) (h2 : Own dl 41 w' B (.slice A' M c') ls)
    (h3 : ∀ k k', (Value.slice A N c).ownBlock = some k → (Value.slice A' M c').ownBlock = some k' → k ≠ k') (h4 : Below B w w') :
    PutIs B w (.returned (.tuple #[.agg #[.slice A N c, .slice A' M c'], .int .i64 n, .int .i64 e])) w' r := by
  subst hN; subst hM; exact put_mk hr h1 h2 h3 h4
end Go.Proofs.Ytamkkpdhponhnaa.Nw
