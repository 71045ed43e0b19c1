/- The document's Fetch, in my words. -/
import Derived.Test.YtamkkpdhponhnaaPf
namespace Go.Proofs.Ytamkkpdhponhnaa.Nw
open Go.RowKit Go.Proofs.Ytamkkpdhponhnaa.Ow Go.Proofs.Ytamkkpdhponhnaa.PMailboxAll Go.Proofs.YtamkkpdhponhnaaW.PrintWords
set_option linter.unusedVariables false
set_option linter.unusedSimpArgs false

theorem fetch_loop (p : ByteArray) (fr most : Int) (ls : List S41) (hb : ls.length ≤ 500000) : ∀ (d k i : Nat) (acc : List S41), i ≤ ls.length → ls.length - i = d → d < k → acc.length + d ≤ 1000000 →
    keyeventref41_Fetch.l0 k p fr most acc ls (ls.length : Int) (i : Int) = some ((ls.drop i).foldl (fetchS p fr most) acc, 0) := by
  intro d
  induction d with
  | zero =>
    intro k i acc h0 hd hk ha
    obtain ⟨k, rfl⟩ : ∃ m, k = m + 1 := ⟨k - 1, by omega⟩
    simp only [keyeventref41_Fetch.l0]
    rw [if_neg (by omega), List.drop_eq_nil_of_le (by omega)]
    rfl
  | succ d ih =>
    intro k i acc h0 hd hk ha
    obtain ⟨k, rfl⟩ : ∃ m, k = m + 1 := ⟨k - 1, by omega⟩
    have hi : i < ls.length := by omega
    simp only [keyeventref41_Fetch.l0]
    rw [if_pos (by omega), if_pos (by omega), if_pos (by omega), wrap_succ (by omega) (by omega)]
    have hr : rd_T41 ls (i : Int) = ls[i] := by unfold rd_T41; simp [List.getD, hi]
    rw [hr, List.drop_eq_getElem_cons hi, List.foldl_cons]
    have hn : fetchS p fr most acc ls[i] = if (acc.length : Int) < most ∧ wantA p fr ls[i] = true then acc ++ [ls[i]] else acc := rfl
    have hw : wantA p fr ls[i] = decide ((ls[i]).f0.toList = p.toList ∧ fr ≤ (ls[i]).f1) := rfl
    generalize ls[i] = l at *
    have no : fetchS p fr most acc l = acc → keyeventref41_Fetch.l0 k p fr most acc ls (ls.length : Int) ((i : Int) + 1) = some ((ls.drop (i + 1)).foldl (fetchS p fr most) (fetchS p fr most acc l), 0) := fun e => by
      rw [e]
      exact ih k (i + 1) acc (by omega) (by omega) (by omega) (by omega)
    by_cases q : l.f0.toList = p.toList
    · rw [if_pos q]
      by_cases q2 : l.f1 ≥ fr
      · rw [if_pos q2]
        have hwt : wantA p fr l = true := by rw [hw]; exact decide_eq_true ⟨q, q2⟩
        by_cases q3 : (acc.length : Int) < most
        · rw [if_pos q3, if_pos (by omega)]
          rw [hn, if_pos ⟨q3, hwt⟩]
          exact ih k (i + 1) (acc ++ [l]) (by omega) (by omega) (by omega) (by simp; omega)
        · rw [if_neg q3]; exact no (by rw [hn, if_neg (fun h => q3 h.1)])
      · rw [if_neg q2]; exact no (by rw [hn, if_neg (fun h => by rw [hw] at h; exact q2 (of_decide_eq_true h.2).2)])
    · rw [if_neg q]; exact no (by rw [hn, if_neg (fun h => by rw [hw] at h; exact q (of_decide_eq_true h.2).1)])
theorem LeO_up {α : Type} {f : Nat → Option α} (hm : ∀ k, LeO (f k) (f (k + 1))) {a b : Nat} (hab : a ≤ b) {r : α} (h : f a = some r) : f b = some r := by
  induction hab with
  | refl => exact h
  | step _ ih => exact hm _ _ ih
theorem fetch_ref (A : Option Addr) (n c : Nat) (ts : List S56) (A' : Option Addr) (n' c' : Nat) (ls : List S41) (p : ByteArray) (fr most : Int) (w : World) (hr : Rd dt w (.slice A n c) ts) (hr' : Rd dl w (.slice A' n' c') ls) (hl : ts.length ≤ 1000000) (hl' : ls.length ≤ 500000) :
    Calls Try.prog 23 #[.agg #[.slice A n c, .slice A' n' c'], .string p, .int .i64 fr, .int .i64 most] w fun e w' => FetchIs w e w' (fetchR ts ls p fr most) := by
  obtain rfl := hr.len
  obtain rfl := hr'.len
  have hf : keyeventref41_Fetch.f (ts.length + ls.length + 1) ts ls p fr most = some ((fetchR ts ls p fr most).1, (fetchR ts ls p fr most).2) := by
    unfold keyeventref41_Fetch.f fetchR
    rw [LeO_up (f := fun k => keyeventref41_place.f k ts ls p) (fun k => keyeventref41_place.mono ts ls p k) (show ts.length + 1 ≤ ts.length + ls.length + 1 by omega) (place_f p ts ls hl)]
    simp only [Option.bind]
    split
    · rfl
    · split
      · rfl
      · exact fetch_loop p fr most ls hl' ls.length _ 0 [] (by omega) (by omega) (by omega) (by simp; omega)
  refine (keyeventref41_Fetch.calls _ A c ts A' c' ls p fr most _ _ w (CT_of_rd hr) hr.cap.1 (CL_of_rd hr') hr'.cap.1 hf).mono ?_
  rintro e w' ⟨v, he, hR, hb⟩
  have ho := own_of_RL hR
  obtain ⟨A1, c1, rfl⟩ := ho.rd.form
  exact ⟨A1, c1, he, ho, hb⟩
end Go.Proofs.Ytamkkpdhponhnaa.Nw
