/- The plain law of MailboxPages. -/
import Derived.Test.YtamkkpdhponhnaaPw
namespace Go.Proofs.Ytamkkpdhponhnaa.Nw
open Go.RowKit Go.Proofs.Ytamkkpdhponhnaa.Ow Go.Proofs.Ytamkkpdhponhnaa.PMailboxAll Go.Proofs.YtamkkpdhponhnaaW.PrintWords
set_option linter.unusedVariables false
set_option linter.unusedSimpArgs false

theorem sorted_filter : ∀ (xs : List S41) (j : Nat) (y : S41), xs.Pairwise (fun a b => a.f1 < b.f1) → xs[j]? = some y → xs.filter (fun l => decide (y.f1 + 1 ≤ l.f1)) = xs.drop (j + 1)
  | [], j, y, _, h => by simp at h
  | x :: xs, 0, y, hp, h => by
    simp at h; subst h
    rw [List.filter_cons, if_neg (by simp; omega), List.drop_succ_cons, List.drop_zero, List.filter_eq_self]
    intro a ha
    have := (List.pairwise_cons.1 hp).1 a ha
    exact decide_eq_true (by omega)
  | x :: xs, j + 1, y, hp, h => by
    have hy : xs[j]? = some y := by simpa using h
    have := (List.pairwise_cons.1 hp).1 y (List.mem_of_getElem? hy)
    rw [List.filter_cons, if_neg (by simp; omega), List.drop_succ_cons]
    exact sorted_filter xs j y (List.pairwise_cons.1 hp).2 hy
/-- The letters of a topic. -/
def lets (p : ByteArray) (ls : List S41) : List S41 := ls.filter (wantA p 0)
theorem lets_up {c : Nat} {ts : List S56} {ls : List S41} (h : Inv c ts ls) (p : ByteArray) : (lets p ls).Pairwise (fun a b => a.f1 < b.f1) := by
  have h1 : (lets p ls).Pairwise (fun a b => a.f0.toList = b.f0.toList → a.f1 < b.f1) := h.up.sublist List.filter_sublist
  refine h1.imp_of_mem (fun {a b} ha hb hab => hab ?_)
  have h2 := (List.mem_filter.1 ha).2
  have h3 := (List.mem_filter.1 hb).2
  unfold wantA at h2 h3
  rw [(of_decide_eq_true h2).1, (of_decide_eq_true h3).1]
theorem want_lets (p : ByteArray) {fr : Int} (hf : 0 ≤ fr) (ls : List S41) : ls.filter (wantA p fr) = (lets p ls).filter (fun l => decide (fr ≤ l.f1)) := by
  unfold lets
  rw [List.filter_filter]
  refine List.filter_congr (fun l hl => ?_)
  rw [Bool.eq_iff_iff]
  simp only [wantA, Bool.and_eq_true, decide_eq_true_eq]
  constructor
  · rintro ⟨h1, h2⟩; exact ⟨h2, h1, by omega⟩
  · rintro ⟨h1, h2, _⟩; exact ⟨h2, h1⟩
theorem lets_bd {c : Nat} {ts : List S56} {ls : List S41} (h : Inv c ts ls) (p : ByteArray) {y : S41} (hy : y ∈ lets p ls) : 0 ≤ y.f1 ∧ y.f1 ≤ c ∧ y.f0.toList = p.toList := by
  have h1 := List.mem_filter.1 hy
  have h2 := h.le y h1.1
  have h3 := h.nx y.f0
  have h4 := h1.2
  unfold wantA at h4
  exact ⟨h2.1, by omega, (of_decide_eq_true h4).1⟩
/-- One page. -/
theorem pages_step {c : Nat} {ts : List S56} {ls : List S41} (h : Inv c ts ls) (p : ByteArray) {k : Nat} {fr n : Int} (hn : 1 ≤ n) (hpl : ¬ placeI ts p < 0) (hf : ls.filter (wantA p fr) = (lets p ls).drop k) :
    ∃ L : List S41, fetchR ts ls p fr n = (L, 0) ∧ (L.length : Int) ≤ n ∧ (lets p ls).take k ++ L = (lets p ls).take (k + L.length) ∧ k + L.length ≤ k + ((lets p ls).length - k) ∧ (L.length = 0 → (lets p ls).length ≤ k) ∧
      ∀ y, L[L.length - 1]? = some y → 0 ≤ y.f1 ∧ y.f1 ≤ c ∧ ls.filter (wantA p (y.f1 + 1)) = (lets p ls).drop (k + L.length) := by
  refine ⟨((lets p ls).drop k).take n.toNat, ?_, ?_, ?_, ?_, ?_, ?_⟩
  · unfold fetchR
    rw [if_neg hpl, if_neg (by omega), fetchA_take, hf]
  · rw [List.length_take]; omega
  · rw [List.length_take, List.length_drop]
    by_cases q : n.toNat ≤ (lets p ls).length - k
    · rw [Nat.min_eq_left q, ← List.take_add]
    · rw [Nat.min_eq_right (by omega), List.take_of_length_le (i := n.toNat) (by rw [List.length_drop]; omega), List.take_append_drop, List.take_of_length_le (by omega)]
  · rw [List.length_take, List.length_drop]; omega
  · rw [List.length_take, List.length_drop]; omega
  · intro y hy
    have hlen : (((lets p ls).drop k).take n.toNat).length = min n.toNat ((lets p ls).length - k) := by rw [List.length_take, List.length_drop]
    generalize hm : (((lets p ls).drop k).take n.toNat).length = m at *
    have hpos : 0 < m := by
      have := (List.getElem?_eq_some_iff.1 hy).1
      omega
    rw [List.getElem?_take_of_lt (by omega), List.getElem?_drop] at hy
    have hb := lets_bd h p (List.mem_of_getElem? hy)
    refine ⟨hb.1, hb.2.1, ?_⟩
    rw [want_lets p (by omega), sorted_filter _ _ y (lets_up h p) hy]
    congr 1
    omega
theorem lets_count (p : ByteArray) (ls : List S41) : countA p ls = (lets p ls).length := rfl
theorem pages_all {ts : List S56} {ls : List S41} (h : Inv 8 ts ls) (p : ByteArray) (hpl : ¬ placeI ts p < 0) : fetchR ts ls p 0 1000 = (lets p ls, 0) := by
  unfold fetchR
  rw [if_neg hpl, if_neg (by omega), fetchA_all _ _ _ _ (by have := h.ll; omega)]; rfl
theorem pages_none {ts : List S56} {ls : List S41} (p : ByteArray) (hpl : placeI ts p < 0) : fetchR ts ls p 0 1000 = ([], 55) := by
  unfold fetchR
  rw [if_pos hpl]
end Go.Proofs.Ytamkkpdhponhnaa.Nw
