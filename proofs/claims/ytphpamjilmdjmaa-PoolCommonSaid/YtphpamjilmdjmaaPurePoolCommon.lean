/- PROVED: PoolCommon: for every number of witnesses, every number of liars and all drawn sets the law answers true. No condition. -/
import Derived.Test.YtphpamjilmdjmaaPPoolCommonx1
import Derived.OpenShut
namespace Go.Proofs.Ytphpamjilmdjmaa.Pure
set_option linter.unusedVariables false
set_option linter.unusedSimpArgs false
open Go.RowKit Go.Proofs.Ytphpamjilmdjmaa.PPoolCommon Go.Proofs.YtphpamjilmdjmaaW.PrintWords Go.Proofs.YtphpamjilmdjmaaW.PrintLast

theorem common_awake : keyeventlaw24_awake.f = some true := by decide +kernel

/-- One round's end, whatever was decided of the two sets. -/
theorem common_j2 (k : Nat) (a b n f t x y both i : Int) (p q : Bool) (hx : 0 ≤ x ∧ x ≤ 9) (hy : 0 ≤ y ∧ y ≤ 9) (hb : 0 ≤ both ∧ both ≤ 9) (hi : 0 ≤ i ∧ i ≤ 9) :
    keyeventlaw24_PoolCommon.j2 (k + 2) a b n f t x y both i p q =
      keyeventlaw24_PoolCommon.l0 k a b n f t (if p then x + 1 else x) (if q then y + 1 else y) (if p && q then both + 1 else both) (i + 1) := by
  have e1 : wrap64 (x + 1) = x + 1 := by unfold wrap64; omega
  have e2 : wrap64 (y + 1) = y + 1 := by unfold wrap64; omega
  have e3 : wrap64 (both + 1) = both + 1 := by unfold wrap64; omega
  have e4 : wrap64 (i + 1) = i + 1 := by unfold wrap64; omega
  cases p <;> cases q <;> simp [keyeventlaw24_PoolCommon.j2, keyeventlaw24_PoolCommon.j3, e1, e2, e3, e4]

theorem common_loop (a b n f t : Int) (hn : n ≤ 9) (hf : 0 ≤ f) (ht : t ≤ n) (ht0 : 0 ≤ t) (hnt : n + f + 1 ≤ 2 * t) (d : Nat) :
    ∀ (k : Nat) (x y both i : Int), (n - i : Int) = d → 0 ≤ i → 3 * d < k → 0 ≤ x → x ≤ t → 0 ≤ y → y ≤ t → 0 ≤ both → both ≤ i → t - x ≤ n - i → t - y ≤ n - i → x + y - i ≤ both →
      keyeventlaw24_PoolCommon.l0 k a b n f t x y both i = some true := by
  induction d with
  | zero =>
    intro k x y both i hd hi hk hx0 hx hy0 hy hb0 hb hxi hyi hxy
    obtain ⟨k, rfl⟩ : ∃ m, k = m + 1 := ⟨k - 1, by omega⟩
    have h1 : x = t := by omega
    have h2 : y = t := by omega
    simp only [keyeventlaw24_PoolCommon.l0]
    rw [if_neg (by omega), if_pos h1, if_pos h2, if_pos (by omega), common_awake]
    rfl
  | succ d ih =>
    intro k x y both i hd hi hk hx0 hx hy0 hy hb0 hb hxi hyi hxy
    obtain ⟨k, rfl⟩ : ∃ m, k = m + 3 := ⟨k - 3, by omega⟩
    have step : ∀ (p q : Bool), (p = true → x < t) → (q = true → y < t) → (p = false → t - x ≤ n - i - 1) → (q = false → t - y ≤ n - i - 1) →
        keyeventlaw24_PoolCommon.j2 (k + 2) a b n f t x y both i p q = some true := by
      intro p q hp hq hp' hq'
      rw [common_j2 k a b n f t x y both i p q ⟨hx0, by omega⟩ ⟨hy0, by omega⟩ ⟨hb0, by omega⟩ ⟨hi, by omega⟩]
      apply ih <;> cases p <;> cases q <;> simp only [reduceCtorEq, if_true, if_false, Bool.and_true, Bool.and_false, Bool.true_and, Bool.false_and, forall_const, false_implies, Bool.false_eq_true] at hp hq hp' hq' ⊢ <;> omega
    have e1 : wrap64 (n - i) = n - i := by unfold wrap64; omega
    have e2 : wrap64 (t - x) = t - x := by unfold wrap64; omega
    have e3 : wrap64 (t - y) = t - y := by unfold wrap64; omega
    have hlt : i < n := by omega
    simp only [keyeventlaw24_PoolCommon.l0]
    rw [if_pos hlt, if_pos hi, e1, e2, e3]
    have cx : ∀ (P : Prop), decide (x < t) = false → t - x ≤ n - i - 1 := by intro P h; have := of_decide_eq_false h; omega
    split
    · split
      · apply step <;> simp <;> omega
      · split
        · apply step <;> simp <;> omega
        · apply step <;> simp <;> omega
    · split
      · split
        · apply step <;> simp <;> omega
        · split
          · apply step <;> simp <;> omega
          · apply step <;> simp <;> omega
      · split
        · apply step <;> simp <;> omega
        · split
          · apply step <;> simp <;> omega
          · apply step <;> simp <;> omega

theorem common_run (k : Nat) (a b n f : Int) (hn1 : 1 ≤ n) (hn : n ≤ 9) (hf : 0 ≤ f) (hfn : f < n) (hk : 40 ≤ k) :
    ((keyeventref16_Majority.f n f).bind fun t107 => (if t107 > n then (keyeventlaw24_PoolCommon.j0 k a b n f t107 true) else ((pool_Safe.f n t107 f).bind fun t108 => (keyeventlaw24_PoolCommon.j0 k a b n f t107 (!t108))))) = some true := by
  obtain ⟨k, rfl⟩ : ∃ m, k = m + 1 := ⟨k - 1, by omega⟩
  have e1 : wrap64 (n + f) = n + f := by unfold wrap64; omega
  have e2 : Int.tdiv (n + f) 2 = (n + f) / 2 := Int.tdiv_eq_ediv_of_nonneg (by omega)
  have e3 : wrap64 ((n + f) / 2) = (n + f) / 2 := by unfold wrap64; omega
  have e4 : wrap64 ((n + f) / 2 + 1) = (n + f) / 2 + 1 := by unfold wrap64; omega
  have e : keyeventref16_Majority.f n f = some ((n + f) / 2 + 1) := by
    unfold keyeventref16_Majority.f; rw [e1, e2, e3, e4]
  rw [e]; simp only [Option.bind_some]
  generalize ht : (n + f) / 2 + 1 = t
  by_cases c : t > n
  · rw [if_pos c]; simp only [keyeventlaw24_PoolCommon.j0]
    rw [if_pos True.intro, if_pos c, common_awake]; rfl
  · rw [if_neg c]
    have s1 : wrap64 (t + t) = t + t := by unfold wrap64; omega
    have s2 : wrap64 (t + t - n) = t + t - n := by unfold wrap64; omega
    have s : pool_Safe.f n t f = some true := by
      unfold pool_Safe.f pool_Overlap.f
      rw [if_pos hf, s1, s2]
      simp only [Option.bind_some]
      unfold mx
      congr 1
      have : f < t + t - n := by omega
      split <;> simp <;> omega
    rw [s]; simp only [Option.bind_some, keyeventlaw24_PoolCommon.j0]
    rw [if_neg (by simp)]
    exact common_loop a b n f t hn hf (by omega) (by omega) (by omega) n.toNat k 0 0 0 0 (by omega) (by omega) (by omega) (by omega) (by omega) (by omega) (by omega) (by omega) (by omega) (by omega) (by omega) (by omega)

theorem PoolCommon : keyeventlaw24_PoolCommon.Pure := by
  intro a0 a1 a2 a3 h0 h1 h2 h3
  refine ⟨41, ?_⟩
  have g0 := bounds_u8 h0
  have g1 := bounds_u8 h1
  unfold keyeventlaw24_PoolCommon.f
  have e1 : Int.tmod a0 9 = a0 % 9 := Int.tmod_eq_emod_of_nonneg (by omega)
  have e2 : wrap64 (a0 % 9) = a0 % 9 := by unfold wrap64; omega
  have e3 : wrap64 (1 + a0 % 9) = 1 + a0 % 9 := by unfold wrap64; omega
  have e4 : wrap64 a1 = a1 := by unfold wrap64; omega
  rw [e1, e2, e3, e4]
  have e5 : Int.tmod a1 (1 + a0 % 9) = a1 % (1 + a0 % 9) := Int.tmod_eq_emod_of_nonneg (by omega)
  rw [e5]
  have hp : 0 < 1 + a0 % 9 := by omega
  rw [if_neg (by omega)]
  exact common_run 41 a2 a3 _ _ (by omega) (by omega) (Int.emod_nonneg _ (by omega)) (Int.emod_lt_of_pos _ hp) (by omega)

end Go.Proofs.Ytphpamjilmdjmaa.Pure
