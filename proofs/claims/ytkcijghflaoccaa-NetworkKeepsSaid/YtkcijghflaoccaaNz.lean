/- NetworkRuns: the plain law. -/
import Derived.Test.YtkcijghflaoccaaNx
namespace Go.Proofs.Ytkcijghflaoccaa.Nw
open Go.RowKit Go.Proofs.Ytkcijghflaoccaa.Ow Go.Proofs.Ytkcijghflaoccaa.PNetworkAll Go.Proofs.YtkcijghflaoccaaW.PrintWords
set_option linter.unusedVariables false
set_option linter.unusedSimpArgs false

/-- The happening that delivers the first packet. -/
def first1 : S34 := ⟨1, 0, 0, 0⟩
theorem fold_acc (hs : List S34) : ∀ (xs acc : List S39), hs.foldl runS (xs, acc) = ((runR xs hs).1, acc ++ (runR xs hs).2) := by
  induction hs with
  | nil => intro xs acc; simp [runR]
  | cons h hs ih =>
    intro xs acc
    have e : runR xs (h :: hs) = hs.foldl runS ((doR xs h).1, (doR xs h).2.1) := by
      unfold runR
      rw [List.foldl_cons]
      show hs.foldl runS ((doR xs h).1, [] ++ (doR xs h).2.1) = _
      rw [List.nil_append]
    rw [e, List.foldl_cons]
    show hs.foldl runS ((doR xs h).1, acc ++ (doR xs h).2.1) = _
    rw [ih, ih]
    simp [List.append_assoc]
/-- A run is its happenings, however it is divided. -/
theorem runR_cut (xs : List S39) (hs : List S34) (k : Nat) :
    runR xs hs = ((runR (runR xs (hs.take k)).1 (hs.drop k)).1, (runR xs (hs.take k)).2 ++ (runR (runR xs (hs.take k)).1 (hs.drop k)).2) := by
  have h := fold_acc (hs.drop k) (runR xs (hs.take k)).1 (runR xs (hs.take k)).2
  rw [← h]
  show hs.foldl runS (xs, []) = (hs.drop k).foldl runS ((hs.take k).foldl runS (xs, []))
  rw [← List.foldl_append, List.take_append_drop]
theorem runR_none (xs : List S39) : runR xs [] = (xs, []) := rfl
/-- To deliver the first packet. -/
theorem doR_first {xs : List S39} {k : Nat} {x : S39} (hx : xs[k]? = some x) : doR (xs.drop k) first1 = (xs.drop (k + 1), [x], 0) := by
  obtain ⟨h1, h2⟩ := List.getElem?_eq_some_iff.1 hx
  have hl : (xs.drop k).length ≠ 0 := by simp; omega
  have hs : spot (xs.drop k) first1 = 0 := by
    unfold spot
    rw [show first1.f1 = 0 from rfl, modv_small (Int.le_refl 0) (by omega)]
    show ((0 : Int) % _).toNat = 0
    rw [Int.zero_emod]; rfl
  unfold doR
  rw [if_neg (by show ¬ ((1 : Int) < 1 ∨ 5 < (1 : Int)); omega), if_neg hl]
  dsimp only
  rw [hs, if_pos (show first1.f0 = 1 from rfl)]
  have hd : xs.drop k = x :: xs.drop (k + 1) := by rw [← h2]; exact List.drop_eq_getElem_cons h1
  rw [hd]
  rfl
theorem take_next {xs : List S39} {k : Nat} {x : S39} (hx : xs[k]? = some x) : xs.take k ++ [x] = xs.take (k + 1) := by
  obtain ⟨h1, h2⟩ := List.getElem?_eq_some_iff.1 hx
  rw [List.take_succ_eq_append_getElem h1, h2]

end Go.Proofs.Ytkcijghflaoccaa.Nw
