/- The plain law of MailboxAll. -/
import Derived.Test.YtamkkpdhponhnaaPw
namespace Go.Proofs.Ytamkkpdhponhnaa.Nw
open Go.RowKit Go.Proofs.Ytamkkpdhponhnaa.Ow Go.Proofs.Ytamkkpdhponhnaa.PMailboxAll Go.Proofs.YtamkkpdhponhnaaW.PrintWords
set_option linter.unusedVariables false
set_option linter.unusedSimpArgs false

theorem drop_same {ks : List S41} (h : ∀ l ∈ ks, 0 ≤ l.f1) (p : ByteArray) (n : Int) : ks.filter (keepR p n) = ks.filter (fun l => !wantD p 0 n l) := by
  refine List.filter_congr (fun l hl => ?_)
  have := h l hl
  rw [Bool.eq_iff_iff]
  simp only [keepR, wantD, Bool.not_eq_true', decide_eq_true_eq, decide_eq_false_iff_not]
  constructor
  · rintro (h1 | h1) ⟨h2, h3, h4⟩
    · exact h1 h2
    · omega
  · intro h1
    by_cases q : l.f0.toList = p.toList
    · right; by_cases q2 : n ≤ l.f1; exact q2; exact absurd ⟨q, this, by omega⟩ h1
    · left; exact q
theorem count_same {ks : List S41} (h : ∀ l ∈ ks, 0 ≤ l.f1) (p : ByteArray) : countR p ks = countA p ks := by
  unfold countR countA
  congr 1
  refine List.filter_congr (fun l hl => ?_)
  have := h l hl
  rw [Bool.eq_iff_iff]
  simp only [wantA, decide_eq_true_eq]
  exact ⟨fun h1 => ⟨h1, this⟩, fun h1 => h1.1⟩
/-- What a put leaves, whatever was put. -/
theorem put_all {ts : List S56} {ls : List S41} (h : Inv 8 ts ls) (p b : ByteArray) :
    ∃ us ks n e, putR ts ls p b = (us, ks, n, e) ∧ us.length ≤ 9 ∧ ks.length ≤ 9 ∧ ∀ l ∈ ks, 0 ≤ l.f1 := by
  have hl := h.ll
  have ht := h.tl
  by_cases q1 : nameP p = false
  · exact ⟨ts, ls, 0, 55, by unfold putR; rw [if_pos q1], by omega, by omega, fun l hl => (h.le l hl).1⟩
  by_cases q2 : (b.size : Int) > 65536
  · exact ⟨ts, ls, 0, 8, by unfold putR; rw [if_neg q1, if_pos q2], by omega, by omega, fun l hl => (h.le l hl).1⟩
  obtain ⟨us, n, e, hi⟩ := h.round (by omega) p b (by cases hq : nameP p; exact absurd hq q1; rfl) (by omega)
  exact ⟨us, _, n, 0, e, hi.tl, hi.ll, fun l hl => (hi.le l hl).1⟩
theorem fetch_len (us : List S56) (ks : List S41) (p : ByteArray) (fr most : Int) : ∃ L er, fetchR us ks p fr most = (L, er) ∧ L.length ≤ ks.length := by
  unfold fetchR
  split
  · exact ⟨_, _, rfl, by simp⟩
  · split
    · exact ⟨_, _, rfl, by simp⟩
    · refine ⟨_, _, rfl, ?_⟩
      rw [fetchA_take]
      have := List.length_filter_le (wantA p fr) ks
      rw [List.length_take]; omega
end Go.Proofs.Ytamkkpdhponhnaa.Nw
