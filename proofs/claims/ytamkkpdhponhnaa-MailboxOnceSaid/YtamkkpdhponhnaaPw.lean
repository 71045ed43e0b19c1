/- The plain laws of the mailbox. -/
import Derived.Test.YtamkkpdhponhnaaPv
import Derived.Test.YtamkkpdhponhnaaPm
import Derived.Test.YtamkkpdhponhnaaPl
namespace Go.Proofs.Ytamkkpdhponhnaa.Nw
open Go.RowKit Go.Proofs.Ytamkkpdhponhnaa.Ow Go.Proofs.Ytamkkpdhponhnaa.PMailboxAll Go.Proofs.YtamkkpdhponhnaaW.PrintWords
set_option linter.unusedVariables false
set_option linter.unusedSimpArgs false

theorem fetch_acc (p : ByteArray) (fr most : Int) : ∀ (ls acc : List S41), ls.foldl (fetchS p fr most) acc = acc ++ (ls.filter (wantA p fr)).take (most - acc.length).toNat
  | [], acc => by simp
  | l :: ls, acc => by
    rw [List.foldl_cons, fetch_acc p fr most ls, List.filter_cons]
    unfold fetchS
    by_cases h : wantA p fr l = true
    · by_cases h1 : (acc.length : Int) < most
      · rw [if_pos ⟨h1, h⟩, if_pos h, List.append_assoc, List.length_append, List.length_singleton]
        have : (most - (acc.length : Int)).toNat = (most - ((acc.length + 1 : Nat) : Int)).toNat + 1 := by omega
        rw [this, List.take_succ_cons]; rfl
      · rw [if_neg (fun c => h1 c.1), if_pos h]
        have : (most - (acc.length : Int)).toNat = 0 := by omega
        rw [this, List.take_zero, List.take_zero]
    · rw [if_neg (fun c => h c.2), if_neg h]
/-- What is fetched: the first ones of those that are wanted. -/
theorem fetchA_take (p : ByteArray) (fr most : Int) (ls : List S41) : fetchA p fr most ls = (ls.filter (wantA p fr)).take most.toNat := by
  unfold fetchA
  rw [fetch_acc]
  simp
theorem fetchA_all (p : ByteArray) (fr most : Int) (ls : List S41) (h : (ls.length : Int) ≤ most) : fetchA p fr most ls = ls.filter (wantA p fr) := by
  rw [fetchA_take, List.take_of_length_le]
  have := List.length_filter_le (wantA p fr) ls
  omega
theorem FetchIs.open {w w' : World} {e : Ending} {r : List S41 × Int} (h : FetchIs w e w' r) {L : List S41} {er : Int} (hr : r = (L, er)) :
    ∃ A c, e = .returned (.tuple #[.slice A L.length c, .int .i64 er]) ∧ Own dl 41 w' w.heap.size (.slice A L.length c) L ∧ Below w.heap.size w w' := by subst hr; exact h
/-- The letters that stay when older ones are dropped. -/
def stay (p : ByteArray) (n : Int) (ls : List S41) : List S41 := ls.filter (fun l => !wantD p 0 n l)
theorem stay_stay (p : ByteArray) (n : Int) (ls : List S41) : stay p n (stay p n ls) = stay p n ls := by
  unfold stay; rw [List.filter_filter]; congr 1; funext l; simp
theorem stay_inv {c : Nat} {ts : List S56} {ls : List S41} (h : Inv c ts ls) (p : ByteArray) (n : Int) : Inv c ts (stay p n ls) := h.filter _
theorem stay_want {c : Nat} {ts : List S56} {ls : List S41} (h : Inv c ts ls) (p : ByteArray) {n : Int} (hn : 0 ≤ n) : (stay p n ls).filter (wantA p 0) = ls.filter (wantA p n) := by
  unfold stay
  rw [List.filter_filter]
  refine List.filter_congr (fun l hl => ?_)
  have := (h.le l hl).1
  rw [Bool.eq_iff_iff]
  simp only [wantA, wantD, Bool.and_eq_true, Bool.not_eq_true', decide_eq_true_eq, decide_eq_false_iff_not]
  constructor
  · rintro ⟨⟨h1, h2⟩, h3⟩
    exact ⟨h1, by by_cases q : l.f1 < n; exact absurd ⟨h1, this, q⟩ h3; omega⟩
  · rintro ⟨h1, h2⟩
    exact ⟨⟨h1, this⟩, fun h3 => by omega⟩
theorem stay_other (p q : ByteArray) (n : Int) (ls : List S41) (h : q.toList ≠ p.toList) : countA q (stay p n ls) = countA q ls := by
  unfold countA stay
  rw [List.filter_filter]
  congr 1
  refine List.filter_congr (fun l hl => ?_)
  rw [Bool.eq_iff_iff]
  simp only [wantA, wantD, Bool.and_eq_true, Bool.not_eq_true', decide_eq_true_eq, decide_eq_false_iff_not]
  constructor
  · rintro ⟨h1, _⟩; exact h1
  · rintro ⟨h1, h2⟩; exact ⟨⟨h1, h2⟩, fun h3 => h (h1.symm.trans h3.1)⟩
/-- What the topics become depends on the topics alone. -/
def tput (ts : List S56) (p : ByteArray) : List S56 := if placeI ts p < 0 then bump (ts ++ [⟨p, 0⟩]) ts.length else bump ts (placeI ts p).toNat
theorem putR_split (ts : List S56) (ls : List S41) (p b : ByteArray) (hn : nameP p = true) (hb : b.size ≤ 65536) (hl : ls.length < 128) (ht : ts.length < 16) :
    putR ts ls p b = (tput ts p, ls ++ [⟨p, nextP ts p, b⟩], nextP ts p, 0) := by
  unfold putR tput nextP
  rw [if_neg (by rw [hn]; simp), if_neg (by omega), if_neg (by omega)]
  split
  · rw [if_neg (by omega)]
  · rfl
/-- What is fetched behind the drop. -/
theorem drops_fetch {ts : List S56} {ls : List S41} (h : Inv 8 ts ls) (p : ByteArray) {n : Int} (hn : 0 ≤ n) :
    ∃ L er, fetchR ts ls p n 100 = (L, er) ∧ fetchR ts (stay p n ls) p 0 100 = (L, er) ∧ L.length ≤ 8 ∧ countA p (stay p n ls) = L.length := by
  have hl := h.ll
  have hs := (stay_inv h p n).ll
  unfold fetchR
  by_cases q : placeI ts p < 0
  · rw [if_pos q, if_pos q]
    refine ⟨[], 55, rfl, rfl, by simp, ?_⟩
    unfold countA
    rw [List.filter_eq_nil_iff.2 (fun l hl => ?_)]
    intro hw
    have h1 := ((stay_inv h p n).le l hl).2.2
    unfold wantA at hw
    rw [placeI_congr (of_decide_eq_true hw).1] at h1
    omega
  · rw [if_neg q, if_neg (by omega), if_neg q, if_neg (by omega)]
    refine ⟨ls.filter (wantA p n), 0, by rw [fetchA_all _ _ _ _ (by omega)], by rw [fetchA_all _ _ _ _ (by omega), stay_want h p hn], Nat.le_trans (List.length_filter_le _ _) hl, ?_⟩
    unfold countA
    rw [stay_want h p hn]
/-- A letter put before and behind the drop. -/
theorem drops_put {ts : List S56} {ls : List S41} (h : Inv 8 ts ls) (p b : ByteArray) (n : Int) (hn : nameP p = true) (hb : b.size ≤ 65536) :
    ∃ ts' l1 l2 x, putR ts ls p b = (ts', l1, x, 0) ∧ putR ts (stay p n ls) p b = (ts', l2, x, 0) := by
  have hl := h.ll
  have ht := h.tl
  have hs := (stay_inv h p n).ll
  have h1 := putR_split ts ls p b hn hb (by omega) (by omega)
  have h2 := putR_split ts (stay p n ls) p b hn hb (by omega) (by omega)
  exact ⟨_, _, _, _, h1, h2⟩
end Go.Proofs.Ytamkkpdhponhnaa.Nw
