/- Lists of letters compared. -/
import Derived.Test.YtamkkpdhponhnaaPc
import Derived.Test.YtamkkpdhponhnaaPMailboxAllx5
namespace Go.Proofs.Ytamkkpdhponhnaa.Nw
open Go.RowKit Go.Proofs.Ytamkkpdhponhnaa.Ow Go.Proofs.Ytamkkpdhponhnaa.PMailboxAll Go.Proofs.YtamkkpdhponhnaaW.PrintWords
set_option linter.unusedVariables false
set_option linter.unusedSimpArgs false

theorem sameL_loops : ∀ (k : Nat) (xs ys : List S41) (n i : Int), api_Letter_38.l0 k xs ys n i = keyeventref41_SameLetters.l0 k xs ys n i := by
  intro k
  induction k with
  | zero => intro xs ys n i; rfl
  | succ k ih => intro xs ys n i; simp only [api_Letter_38.l0, keyeventref41_SameLetters.l0, ih]

theorem sameL_ends (xs ys : List S41) (hl : xs.length = ys.length) (hb : xs.length ≤ 1000000) : ∀ (d k : Nat) (i : Int), 0 ≤ i → i ≤ xs.length → (xs.length : Int) - i = d → d < k →
    ∃ r, keyeventref41_SameLetters.l0 k xs ys xs.length i = some r := by
  intro d
  induction d with
  | zero =>
    intro k i h0 h1 hd hk
    obtain ⟨k, rfl⟩ : ∃ m, k = m + 1 := ⟨k - 1, by omega⟩
    exact ⟨true, by simp only [keyeventref41_SameLetters.l0]; rw [if_neg (by omega)]⟩
  | succ d ih =>
    intro k i h0 h1 hd hk
    obtain ⟨k, rfl⟩ : ∃ m, k = m + 1 := ⟨k - 1, by omega⟩
    simp only [keyeventref41_SameLetters.l0]
    rw [if_pos (by omega), if_pos h0, if_pos (by omega), if_pos (by omega), wrap_succ h0 (by omega)]
    split
    · exact ⟨false, rfl⟩
    · exact ih k (i + 1) (by omega) (by omega) (by omega) (by omega)

theorem sameL_self0 (xs : List S41) (hb : xs.length ≤ 1000000) : ∀ (d k : Nat) (i : Int), 0 ≤ i → i ≤ xs.length → (xs.length : Int) - i = d → d < k →
    keyeventref41_SameLetters.l0 k xs xs xs.length i = some true := by
  intro d
  induction d with
  | zero =>
    intro k i h0 h1 hd hk
    obtain ⟨k, rfl⟩ : ∃ m, k = m + 1 := ⟨k - 1, by omega⟩
    simp only [keyeventref41_SameLetters.l0]; rw [if_neg (by omega)]
  | succ d ih =>
    intro k i h0 h1 hd hk
    obtain ⟨k, rfl⟩ : ∃ m, k = m + 1 := ⟨k - 1, by omega⟩
    simp only [keyeventref41_SameLetters.l0]
    rw [if_pos (by omega), if_pos h0, if_pos (by omega), wrap_succ h0 (by omega), if_pos (by omega), if_neg (by simp)]
    exact ih k (i + 1) (by omega) (by omega) (by omega) (by omega)

/-- Do two lists hold the same packets? -/
def sameL (xs ys : List S41) : Bool := (keyeventref41_SameLetters.f (xs.length + 1) xs ys).getD false
theorem sameL_ref (xs ys : List S41) (hb : xs.length ≤ 1000000) : keyeventref41_SameLetters.f (xs.length + 1) xs ys = some (sameL xs ys) := by
  have : ∃ r, keyeventref41_SameLetters.f (xs.length + 1) xs ys = some r := by
    unfold keyeventref41_SameLetters.f
    by_cases h : (xs.length : Int) = ys.length
    · rw [if_pos h]
      exact sameL_ends xs ys (by omega) hb xs.length _ 0 (by omega) (by omega) (by omega) (by omega)
    · rw [if_neg h]; exact ⟨false, rfl⟩
  obtain ⟨r, hr⟩ := this
  unfold sameL
  rw [hr]; rfl
theorem sameL_any (xs ys : List S41) (hb : xs.length ≤ 1000000) : api_Letter_38.f (xs.length + 1) xs ys = some (sameL xs ys) := by
  rw [← sameL_ref xs ys hb]
  unfold api_Letter_38.f keyeventref41_SameLetters.f
  rw [sameL_loops]
theorem sameL_self (xs : List S41) (hb : xs.length ≤ 1000000) : sameL xs xs = true := by
  unfold sameL keyeventref41_SameLetters.f
  rw [if_pos rfl, sameL_self0 xs hb xs.length _ 0 (by omega) (by omega) (by omega) (by omega)]
  rfl

theorem sameL_ref17 (A B : Option Addr) (n c m d : Nat) (xs ys : List S41) (w : World) (hx : Rd dl w (.slice A n c) xs) (hy : Rd dl w (.slice B m d) ys) (hb : xs.length ≤ 1000000) :
    Calls Try.prog 17 #[.slice A n c, .slice B m d] w fun e w' => e = .returned (.bool (sameL xs ys)) ∧ Below w.heap.size w w' := by
  obtain rfl := hx.len
  obtain rfl := hy.len
  exact (keyeventref41_SameLetters.calls (xs.length + 1) A c xs B d ys _ w (CL_of_rd hx) hx.cap.1 (CL_of_rd hy) hy.cap.1 (sameL_ref xs ys hb)).mono fun e w' ⟨he, hk⟩ => ⟨he, by first | exact hk | (obtain ⟨k, hk⟩ := hk; rw [hk]; exact bel_drewN (Below.refl _ _) _)⟩
end Go.Proofs.Ytamkkpdhponhnaa.Nw
