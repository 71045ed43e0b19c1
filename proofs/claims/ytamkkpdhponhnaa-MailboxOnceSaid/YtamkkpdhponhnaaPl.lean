/- The document's Count, in my words. -/
import Derived.Test.YtamkkpdhponhnaaPe
namespace Go.Proofs.Ytamkkpdhponhnaa.Nw
open Go.RowKit Go.Proofs.Ytamkkpdhponhnaa.Ow Go.Proofs.Ytamkkpdhponhnaa.PMailboxAll Go.Proofs.YtamkkpdhponhnaaW.PrintWords
set_option linter.unusedVariables false
set_option linter.unusedSimpArgs false

/-- How many letters of a topic. -/
def countR (p : ByteArray) (ls : List S41) : Nat := (ls.filter (fun l => decide (l.f0.toList = p.toList))).length
theorem count_loop (p : ByteArray) (ls : List S41) (hb : ls.length ≤ 1000000) : ∀ (d k i acc : Nat), i ≤ ls.length → ls.length - i = d → d < k → acc + d ≤ 1000000 →
    keyeventref41_Count.l0 k p (acc : Int) ls (ls.length : Int) (i : Int) = some ((acc + countR p (ls.drop i) : Nat) : Int) := by
  intro d
  induction d with
  | zero =>
    intro k i acc h0 hd hk ha
    obtain ⟨k, rfl⟩ : ∃ m, k = m + 1 := ⟨k - 1, by omega⟩
    simp only [keyeventref41_Count.l0]
    rw [if_neg (by omega), List.drop_eq_nil_of_le (by omega)]
    rfl
  | succ d ih =>
    intro k i acc h0 hd hk ha
    obtain ⟨k, rfl⟩ : ∃ m, k = m + 1 := ⟨k - 1, by omega⟩
    have hi : i < ls.length := by omega
    simp only [keyeventref41_Count.l0]
    rw [if_pos (by omega), if_pos (by omega), if_pos (by omega), wrap_succ (by omega) (by omega), wrap_succ (by omega) (by omega)]
    have hr : rd_T41 ls (i : Int) = ls[i] := by unfold rd_T41; simp [List.getD, hi]
    rw [hr, List.drop_eq_getElem_cons hi]
    by_cases q : (ls[i]).f0.toList = p.toList
    · rw [if_pos q]
      have h := ih k (i + 1) (acc + 1) (by omega) (by omega) (by omega) (by omega)
      have e : countR p (ls[i] :: ls.drop (i + 1)) = countR p (ls.drop (i + 1)) + 1 := by unfold countR; simp [List.filter, q]
      rw [e, show acc + (countR p (ls.drop (i + 1)) + 1) = acc + 1 + countR p (ls.drop (i + 1)) by omega, ← h]
      rfl
    · rw [if_neg q]
      have h := ih k (i + 1) acc (by omega) (by omega) (by omega) (by omega)
      have e : countR p (ls[i] :: ls.drop (i + 1)) = countR p (ls.drop (i + 1)) := by unfold countR; simp [List.filter, q]
      rw [e, ← h]
      rfl
theorem count_ref (A : Option Addr) (n c : Nat) (ts : List S56) (A' : Option Addr) (n' c' : Nat) (ls : List S41) (p : ByteArray) (w : World) (hr : Rd dt w (.slice A n c) ts) (hr' : Rd dl w (.slice A' n' c') ls) (hl : ls.length ≤ 500000) :
    Calls Try.prog 26 #[.agg #[.slice A n c, .slice A' n' c'], .string p] w fun e w' => e = .returned (.int .i64 (countR p ls)) ∧ Below w.heap.size w w' := by
  obtain rfl := hr.len
  obtain rfl := hr'.len
  refine keyeventref41_Count.calls (ls.length + 1) A c ts A' c' ls p _ w (CT_of_rd hr) hr.cap.1 (CL_of_rd hr') hr'.cap.1 ?_
  unfold keyeventref41_Count.f
  have h := count_loop p ls (by omega) ls.length (ls.length + 1) 0 0 (by omega) (by omega) (by omega) (by omega)
  rw [Nat.zero_add] at h
  exact h
end Go.Proofs.Ytamkkpdhponhnaa.Nw
