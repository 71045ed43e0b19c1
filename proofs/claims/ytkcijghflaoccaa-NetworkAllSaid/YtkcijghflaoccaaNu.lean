/- Contracts, in my words, of what compares and counts packets, and of the dice. -/
import Derived.Test.YtkcijghflaoccaaNt
namespace Go.Proofs.Ytkcijghflaoccaa.Nw
open Go.RowKit Go.Proofs.Ytkcijghflaoccaa.Ow Go.Proofs.Ytkcijghflaoccaa.PNetworkAll Go.Proofs.YtkcijghflaoccaaW.PrintWords
set_option linter.unusedVariables false
set_option linter.unusedSimpArgs false

theorem wrap_succ {i : Int} (h0 : 0 ≤ i) (h : i ≤ 1000000000) : wrap64 (i + 1) = i + 1 := by unfold wrap64; omega

theorem same_loops : ∀ (k : Nat) (xs ys : List S39) (n i : Int), api_Packet_34.l0 k xs ys n i = keyeventref42_SamePackets.l0 k xs ys n i := by
  intro k
  induction k with
  | zero => intro xs ys n i; rfl
  | succ k ih => intro xs ys n i; simp only [api_Packet_34.l0, keyeventref42_SamePackets.l0, ih]

theorem same_ends (xs ys : List S39) (hl : xs.length = ys.length) (hb : xs.length ≤ 1000000) : ∀ (d k : Nat) (i : Int), 0 ≤ i → i ≤ xs.length → (xs.length : Int) - i = d → d < k →
    ∃ r, keyeventref42_SamePackets.l0 k xs ys xs.length i = some r := by
  intro d
  induction d with
  | zero =>
    intro k i h0 h1 hd hk
    obtain ⟨k, rfl⟩ : ∃ m, k = m + 1 := ⟨k - 1, by omega⟩
    exact ⟨true, by simp only [keyeventref42_SamePackets.l0]; rw [if_neg (by omega)]⟩
  | succ d ih =>
    intro k i h0 h1 hd hk
    obtain ⟨k, rfl⟩ : ∃ m, k = m + 1 := ⟨k - 1, by omega⟩
    simp only [keyeventref42_SamePackets.l0]
    rw [if_pos (by omega), if_pos h0, if_pos (by omega), if_pos (by omega), wrap_succ h0 (by omega)]
    split
    · exact ⟨false, rfl⟩
    · exact ih k (i + 1) (by omega) (by omega) (by omega) (by omega)

theorem same_self (xs : List S39) (hb : xs.length ≤ 1000000) : ∀ (d k : Nat) (i : Int), 0 ≤ i → i ≤ xs.length → (xs.length : Int) - i = d → d < k →
    keyeventref42_SamePackets.l0 k xs xs xs.length i = some true := by
  intro d
  induction d with
  | zero =>
    intro k i h0 h1 hd hk
    obtain ⟨k, rfl⟩ : ∃ m, k = m + 1 := ⟨k - 1, by omega⟩
    simp only [keyeventref42_SamePackets.l0]; rw [if_neg (by omega)]
  | succ d ih =>
    intro k i h0 h1 hd hk
    obtain ⟨k, rfl⟩ : ∃ m, k = m + 1 := ⟨k - 1, by omega⟩
    simp only [keyeventref42_SamePackets.l0]
    rw [if_pos (by omega), if_pos h0, if_pos (by omega), wrap_succ h0 (by omega), if_pos (by omega), if_neg (by simp)]
    exact ih k (i + 1) (by omega) (by omega) (by omega) (by omega)

/-- Do two lists hold the same packets? -/
def sameP (xs ys : List S39) : Bool := (keyeventref42_SamePackets.f (xs.length + 1) xs ys).getD false
theorem sameP_ref (xs ys : List S39) (hb : xs.length ≤ 1000000) : keyeventref42_SamePackets.f (xs.length + 1) xs ys = some (sameP xs ys) := by
  have : ∃ r, keyeventref42_SamePackets.f (xs.length + 1) xs ys = some r := by
    unfold keyeventref42_SamePackets.f
    by_cases h : (xs.length : Int) = ys.length
    · rw [if_pos h]
      exact same_ends xs ys (by omega) hb xs.length _ 0 (by omega) (by omega) (by omega) (by omega)
    · rw [if_neg h]; exact ⟨false, rfl⟩
  obtain ⟨r, hr⟩ := this
  unfold sameP
  rw [hr]; rfl
theorem sameP_any (xs ys : List S39) (hb : xs.length ≤ 1000000) : api_Packet_34.f (xs.length + 1) xs ys = some (sameP xs ys) := by
  rw [← sameP_ref xs ys hb]
  unfold api_Packet_34.f keyeventref42_SamePackets.f
  rw [same_loops]
theorem sameP_self (xs : List S39) (hb : xs.length ≤ 1000000) : sameP xs xs = true := by
  unfold sameP keyeventref42_SamePackets.f
  rw [if_pos rfl, same_self xs hb xs.length _ 0 (by omega) (by omega) (by omega) (by omega)]
  rfl

/-- The same of networks. -/
def sameN (p : Int) (xs : List S39) (q : Int) (ys : List S39) : Bool := if p = q then sameP xs ys else false
theorem sameN_self (p : Int) (xs : List S39) (hb : xs.length ≤ 1000000) : sameN p xs p xs = true := by unfold sameN; rw [if_pos rfl, sameP_self xs hb]

theorem same_any (p q : Int) (A B : Option Addr) (n c m d : Nat) (xs ys : List S39) (w : World) (hx : Rd dk w (.slice A n c) xs) (hy : Rd dk w (.slice B m d) ys) (hb : xs.length ≤ 1000000) :
    Calls Try.prog 17 #[.agg #[.int .i64 p, .slice A n c], .agg #[.int .i64 q, .slice B m d]] w fun e w' => e = .returned (.bool (sameN p xs q ys)) ∧ Below w.heap.size w w' := by
  obtain rfl := hx.len
  obtain rfl := hy.len
  refine network_Same.calls (xs.length + 1) p A c xs q B d ys _ w (C_of_rd hx) hx.cap.1 (C_of_rd hy) hy.cap.1 ?_
  unfold network_Same.f sameN
  split
  · rw [sameP_any xs ys hb]; rfl
  · rfl
theorem same_ref (p q : Int) (A B : Option Addr) (n c m d : Nat) (xs ys : List S39) (w : World) (hx : Rd dk w (.slice A n c) xs) (hy : Rd dk w (.slice B m d) ys) (hb : xs.length ≤ 1000000) :
    Calls Try.prog 16 #[.agg #[.int .i64 p, .slice A n c], .agg #[.int .i64 q, .slice B m d]] w fun e w' => e = .returned (.bool (sameN p xs q ys)) ∧ Below w.heap.size w w' := by
  obtain rfl := hx.len
  obtain rfl := hy.len
  refine keyeventref42_Same.calls (xs.length + 1) p A c xs q B d ys _ w (C_of_rd hx) hx.cap.1 (C_of_rd hy) hy.cap.1 ?_
  unfold keyeventref42_Same.f sameN
  split
  · rw [sameP_ref xs ys hb]; rfl
  · rfl
theorem samep_ref (A B : Option Addr) (n c m d : Nat) (xs ys : List S39) (w : World) (hx : Rd dk w (.slice A n c) xs) (hy : Rd dk w (.slice B m d) ys) (hb : xs.length ≤ 1000000) :
    Calls Try.prog 19 #[.slice A n c, .slice B m d] w fun e w' => e = .returned (.bool (sameP xs ys)) ∧ Below w.heap.size w w' := by
  obtain rfl := hx.len
  obtain rfl := hy.len
  refine (keyeventref42_SamePackets.calls (xs.length + 1) A c xs B d ys _ w (C_of_rd hx) hx.cap.1 (C_of_rd hy) hy.cap.1 (sameP_ref xs ys hb)).mono fun e w' ⟨he, ⟨k, hk⟩⟩ => ⟨he, ?_⟩
  rw [hk]; exact bel_drewN (Below.refl _ _) _

theorem wait_loops : ∀ (k : Nat) (a s : Int) (xs : List S39) (n i : Int), network_Waiting.l0 k a s xs n i = keyeventref42_Waiting.l0 k a s xs n i := by
  intro k
  induction k with
  | zero => intro a s xs n i; rfl
  | succ k ih => intro a s xs n i; simp only [network_Waiting.l0, keyeventref42_Waiting.l0, ih]
theorem wait_ends (a : Int) (xs : List S39) (hb : xs.length ≤ 1000000) : ∀ (d k : Nat) (s i : Int), 0 ≤ i → i ≤ xs.length → (xs.length : Int) - i = d → d < k → ∃ r, keyeventref42_Waiting.l0 k a s xs xs.length i = some r := by
  intro d
  induction d with
  | zero =>
    intro k s i h0 h1 hd hk
    obtain ⟨k, rfl⟩ : ∃ m, k = m + 1 := ⟨k - 1, by omega⟩
    exact ⟨s, by simp only [keyeventref42_Waiting.l0]; rw [if_neg (by omega)]⟩
  | succ d ih =>
    intro k s i h0 h1 hd hk
    obtain ⟨k, rfl⟩ : ∃ m, k = m + 1 := ⟨k - 1, by omega⟩
    simp only [keyeventref42_Waiting.l0]
    rw [if_pos (by omega), if_pos h0, if_pos (by omega), wrap_succ h0 (by omega)]
    split
    · exact ih k _ (i + 1) (by omega) (by omega) (by omega) (by omega)
    · exact ih k _ (i + 1) (by omega) (by omega) (by omega) (by omega)
def waitP (xs : List S39) (a : Int) : Int := (keyeventref42_Waiting.f (xs.length + 1) 0 xs a).getD 0
theorem waitP_ref (p : Int) (xs : List S39) (a : Int) (hb : xs.length ≤ 1000000) : keyeventref42_Waiting.f (xs.length + 1) p xs a = some (waitP xs a) := by
  obtain ⟨r, hr⟩ := wait_ends a xs hb xs.length (xs.length + 1) 0 0 (by omega) (by omega) (by omega) (by omega)
  unfold waitP keyeventref42_Waiting.f
  rw [hr]; rfl
theorem waitP_any (p : Int) (xs : List S39) (a : Int) (hb : xs.length ≤ 1000000) : network_Waiting.f (xs.length + 1) p xs a = some (waitP xs a) := by
  rw [← waitP_ref p xs a hb]
  unfold network_Waiting.f keyeventref42_Waiting.f
  rw [wait_loops]
theorem wait_any (p a : Int) (A : Option Addr) (n c : Nat) (xs : List S39) (w : World) (hx : Rd dk w (.slice A n c) xs) (hb : xs.length ≤ 1000000) :
    Calls Try.prog 25 #[.agg #[.int .i64 p, .slice A n c], .int .i64 a] w fun e w' => e = .returned (.int .i64 (waitP xs a)) ∧ Below w.heap.size w w' := by
  obtain rfl := hx.len
  exact network_Waiting.calls (xs.length + 1) p A c xs a _ w (C_of_rd hx) hx.cap.1 (waitP_any p xs a hb)
theorem wait_ref (p a : Int) (A : Option Addr) (n c : Nat) (xs : List S39) (w : World) (hx : Rd dk w (.slice A n c) xs) (hb : xs.length ≤ 1000000) :
    Calls Try.prog 26 #[.agg #[.int .i64 p, .slice A n c], .int .i64 a] w fun e w' => e = .returned (.int .i64 (waitP xs a)) ∧ Below w.heap.size w w' := by
  obtain rfl := hx.len
  exact keyeventref42_Waiting.calls (xs.length + 1) p A c xs a _ w (C_of_rd hx) hx.cap.1 (waitP_ref p xs a hb)

/-- New: the number of parties and the error. -/
def newP (a : Int) : Int := if a < 1 then 0 else if a > 16 then 0 else a
def newE (a : Int) : Int := if a < 1 then 2 else if a > 16 then 2 else 0
theorem new_f (a : Int) : network_New.f a = some (newP a, [], newE a) ∧ keyeventref42_New.f a = some (newP a, [], newE a) := by
  unfold network_New.f keyeventref42_New.f newP newE
  constructor <;> (split; rfl; split <;> rfl)
theorem new_any (a : Int) (w : World) : Calls Try.prog 22 #[.int .i64 a] w fun e w' => NetE w e w' (newP a) [] (newE a) := by
  refine (network_New.calls a _ _ _ w (new_f a).1).mono fun e w' ⟨v, he, hr, hb⟩ => ?_
  have ho := own_of_R hr
  obtain ⟨A, c, rfl⟩ := ho.rd.form
  exact ⟨A, c, he, ho, hb⟩
theorem new_ref (a : Int) (w : World) : Calls Try.prog 23 #[.int .i64 a] w fun e w' => NetE w e w' (newP a) [] (newE a) := by
  refine (keyeventref42_New.calls a _ _ _ w (new_f a).2).mono fun e w' ⟨v, he, hr, hb⟩ => ?_
  have ho := own_of_R hr
  obtain ⟨A, c, rfl⟩ := ho.rd.form
  exact ⟨A, c, he, ho, hb⟩
end Go.Proofs.Ytkcijghflaoccaa.Nw
