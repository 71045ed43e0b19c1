/- Contracts of the functions that PoolNumbers calls: each computes and leaves the world alone. -/
import Derived.Test.YtphpamjilmdjmaaProg
import Derived.Below
import Derived.Deep.Draws
import Derived.WalkKit
import Derived.KernelRfl
import Derived.Deep.QuietTactic
import Derived.BigQuiet
import Derived.WalkLawsBesides
import Derived.Lib.Hide
namespace Go.Proofs.Ytphpamjilmdjmaa.Num
open Go.RowKit
set_option linter.unusedVariables false
set_option linter.unusedSimpArgs false

/-- A callee that draws nothing, met inside a region whose order is open. -/
theorem still {P : Program} {f : FuncId} {args : Array Value} {w : World} {n : Nat} {v : Value}
    (h : ∀ W, Calls P f args W fun e w' => e = .returned v ∧ W = w') : Calls P f args (w.drewN n) fun e w'' => e = .returned v ∧ ∃ m, w'' = w.drewN m :=
  (h _).mono fun _ _ ⟨he, hm⟩ => ⟨he, n, hm.symm⟩
theorem ret_int {k : IntKind} {a b : Int} (h : a = b) : Ending.returned (.int k a) = .returned (.int k b) := by rw [h]
theorem ret_bool {a b : Bool} (h : a = b) : Ending.returned (.bool a) = .returned (.bool b) := by rw [h]

def modv (n m : Int) : Int := (n.tmod m + m).tmod m
theorem modv_bd (n m : Int) (h : 1 ≤ m) : 0 ≤ modv n m ∧ modv n m < m := by
  unfold modv
  have h1 := Int.tmod_lt_of_pos n (by omega : 0 < m)
  have h2 : -m < n.tmod m := Int.lt_tmod_of_pos n (by omega : 0 < m)
  rw [Int.tmod_eq_emod_of_nonneg (by omega)]
  exact ⟨Int.emod_nonneg _ (by omega), Int.emod_lt_of_pos _ (by omega)⟩

set_option maxHeartbeats 400000 in
theorem mod_any (n m : Int) (w : World) (hn : -9223372036854775808 ≤ n) (hn' : n ≤ 9223372036854775807) (h : 1 ≤ m) (h' : m ≤ 2000000000) :
    Calls Try.prog 9 #[.int .i64 n, .int .i64 m] w fun e w' => e = .returned (.int .i64 (modv n m)) ∧ w = w' := by
  have h1 := Int.tmod_lt_of_pos n (by omega : 0 < m)
  have h2 : -m < n.tmod m := Int.lt_tmod_of_pos n (by omega : 0 < m)
  have h3 : wrap64 (n.tmod m + m) = n.tmod m + m := by unfold wrap64; omega
  have h4 : (n.tmod m + m).tmod m = (n.tmod m + m) % m := Int.tmod_eq_emod_of_nonneg (by omega)
  have H : Hid (wrap64 (n.tmod m + m) = n.tmod m + m) := h3
  have H4 : Hid ((n.tmod m + m).tmod m = (n.tmod m + m) % m) := h4
  clear h3 h4
  go_enter Try.func9, Try.ntmps9
  go_wp2
  go_ret
  exact ⟨ret_int (by unfold modv; first | rfl | rw [H.out] | rw [H4.out]), rfl⟩

def ov (n x y : Int) : Int := if x + y < n then 0 else x + y - n
theorem ov_bd (n x y : Int) (hn : 0 ≤ n) (hx : 0 ≤ x) (hy : 0 ≤ y) : 0 ≤ ov n x y ∧ ov n x y ≤ x + y := by unfold ov; split <;> omega

set_option maxHeartbeats 400000 in
theorem overlap_any (n x y : Int) (w : World) (hn : 0 ≤ n) (hn' : n ≤ 2000000000) (hx : 0 ≤ x) (hx' : x ≤ 2000000000) (hy : 0 ≤ y) (hy' : y ≤ 2000000000) :
    Calls Try.prog 12 #[.int .i64 n, .int .i64 x, .int .i64 y] w fun e w' => e = .returned (.int .i64 (ov n x y)) ∧ w = w' := by
  by_cases h : x + y < n
  all_goals
    go_enter Try.func12, Try.ntmps12
    go_wp2
    go_ret
    exact ⟨ret_int (by unfold ov; first | rw [if_pos (by omega)] | rw [if_neg (by omega)]), rfl⟩

set_option maxHeartbeats 400000 in
theorem overlap_ref (n x y : Int) (w : World) (hn : 0 ≤ n) (hn' : n ≤ 2000000000) (hx : 0 ≤ x) (hx' : x ≤ 2000000000) (hy : 0 ≤ y) (hy' : y ≤ 2000000000) :
    Calls Try.prog 13 #[.int .i64 n, .int .i64 x, .int .i64 y] w fun e w' => e = .returned (.int .i64 (ov n x y)) ∧ w = w' := by
  by_cases h : x + y < n
  all_goals
    go_enter Try.func13, Try.ntmps13
    go_wp2
    all_goals
      go_ret
      exact ⟨ret_int (by unfold ov; first | (rw [if_pos (by omega)]; done) | (rw [if_neg (by omega)]; done) | (rw [if_neg (by omega)]; omega)), rfl⟩

def sf (n x f : Int) : Bool := decide (0 ≤ f) && decide (f < ov n x x)
set_option maxHeartbeats 400000 in
theorem safe_any (n x f : Int) (w : World) (hn : 0 ≤ n) (hn' : n ≤ 2000000000) (hx : 0 ≤ x) (hx' : x ≤ 2000000000) (hf : -10 ≤ f) (hf' : f ≤ 2000000000) :
    Calls Try.prog 7 #[.int .i64 n, .int .i64 x, .int .i64 f] w fun e w' => e = .returned (.bool (sf n x f)) ∧ w = w' := by
  by_cases h : 0 ≤ f
  · go_enter Try.func7, Try.ntmps7
    go_wp2_with (go_at_call 12; refine (overlap_any n x x _ hn hn' hx hx' hx hx').mono ?_; rintro e w' ⟨rfl, rfl⟩)
    go_ret
    exact ⟨ret_bool (by unfold sf; simp [h]), rfl⟩
  · have hd : decide (0 ≤ f) = false := by simp; omega
    go_enter Try.func7, Try.ntmps7
    go_wp2
    go_ret
    exact ⟨ret_bool (by unfold sf; simp [hd]), rfl⟩

set_option maxHeartbeats 400000 in
theorem safe_ref (n x f : Int) (w : World) (hn : 0 ≤ n) (hn' : n ≤ 2000000000) (hx : 0 ≤ x) (hx' : x ≤ 2000000000) (hf : -10 ≤ f) (hf' : f ≤ 2000000000) :
    Calls Try.prog 14 #[.int .i64 n, .int .i64 x, .int .i64 f] w fun e w' => e = .returned (.bool (sf n x f)) ∧ w = w' := by
  by_cases h : 0 ≤ f
  · go_enter Try.func14, Try.ntmps14
    go_wp2_with (go_at_call 13; refine (overlap_ref n x x _ hn hn' hx hx' hx hx').mono ?_; rintro e w' ⟨rfl, rfl⟩)
    go_ret
    exact ⟨ret_bool (by unfold sf; simp [h]), rfl⟩
  · have hd : decide (0 ≤ f) = false := by simp; omega
    go_enter Try.func14, Try.ntmps14
    go_wp2
    go_ret
    exact ⟨ret_bool (by unfold sf; simp [hd]), rfl⟩

def al (n x f : Int) : Bool := decide (0 ≤ f) && decide (0 ≤ x) && decide (x ≤ n - f)
set_option maxHeartbeats 400000 in
theorem alive_any (n x f : Int) (w : World) (hn : 0 ≤ n) (hn' : n ≤ 2000000000) (hx : 0 ≤ x) (hx' : x ≤ 2000000000) (hf : -10 ≤ f) (hf' : f ≤ 2000000000) :
    Calls Try.prog 15 #[.int .i64 n, .int .i64 x, .int .i64 f] w fun e w' => e = .returned (.bool (al n x f)) ∧ w = w' := by
  by_cases h : 0 ≤ f
  · go_enter Try.func15, Try.ntmps15
    go_wp2
    go_ret
    exact ⟨ret_bool (by unfold al; simp [h, hx]), rfl⟩
  · have hd : decide (0 ≤ f) = false := by simp; omega
    go_enter Try.func15, Try.ntmps15
    go_wp2
    go_ret
    exact ⟨ret_bool (by unfold al; simp [hd]), rfl⟩
set_option maxHeartbeats 400000 in
theorem alive_ref (n x f : Int) (w : World) (hn : 0 ≤ n) (hn' : n ≤ 2000000000) (hx : 0 ≤ x) (hx' : x ≤ 2000000000) (hf : -10 ≤ f) (hf' : f ≤ 2000000000) :
    Calls Try.prog 16 #[.int .i64 n, .int .i64 x, .int .i64 f] w fun e w' => e = .returned (.bool (al n x f)) ∧ w = w' := by
  by_cases h : 0 ≤ f
  · go_enter Try.func16, Try.ntmps16
    go_wp2
    go_ret
    exact ⟨ret_bool (by unfold al; simp [h, hx]), rfl⟩
  · have hd : decide (0 ≤ f) = false := by simp; omega
    go_enter Try.func16, Try.ntmps16
    go_wp2
    go_ret
    exact ⟨ret_bool (by unfold al; simp [hd]), rfl⟩

def b1 (n : Int) : Int := if n < 1 then 0 else (n - 1) / 3
def b2 (n : Int) : Int := if n < 1 then 0 else (n + (n - 1) / 3) / 2 + 1
theorem ret_pair {k : IntKind} {a b c d : Int} (h : a = b) (h' : c = d) : Ending.returned (.tuple #[.int k a, .int k c]) = .returned (.tuple #[.int k b, .int k d]) := by rw [h, h']
set_option maxHeartbeats 400000 in
theorem best_any (n : Int) (w : World) (hn : 0 ≤ n) (hn' : n ≤ 2000000000) :
    Calls Try.prog 10 #[.int .i64 n] w fun e w' => e = .returned (.tuple #[.int .i64 (b1 n), .int .i64 (b2 n)]) ∧ w = w' := by
  by_cases h : n < 1
  all_goals
    go_enter Try.func10, Try.ntmps10
    go_wp2
    go_ret2
    exact ⟨ret_pair (by unfold b1; first | (rw [if_pos (by omega)]; done) | (rw [if_neg (by omega)]; done)) (by unfold b2; first | (rw [if_pos (by omega)]; done) | (rw [if_neg (by omega)]; done)), rfl⟩
set_option maxHeartbeats 400000 in
theorem best_ref (n : Int) (w : World) (hn : 0 ≤ n) (hn' : n ≤ 2000000000) :
    Calls Try.prog 11 #[.int .i64 n] w fun e w' => e = .returned (.tuple #[.int .i64 (b1 n), .int .i64 (b2 n)]) ∧ w = w' := by
  by_cases h : n < 1
  all_goals
    go_enter Try.func11, Try.ntmps11
    go_wp2
    go_ret2
    exact ⟨ret_pair (by unfold b1; first | (rw [if_pos (by omega)]; done) | (rw [if_neg (by omega)]; done)) (by unfold b2; first | (rw [if_pos (by omega)]; done) | (rw [if_neg (by omega)]; done)), rfl⟩

theorem b1_4 : b1 4 = 1 := by decide
theorem b2_4 : b2 4 = 3 := by decide
theorem sf_431 : sf 4 3 1 = true := by decide
theorem sf_421 : sf 4 2 1 = false := by decide
theorem ov_534 : ov 5 3 4 = 2 := by decide
set_option maxHeartbeats 400000 in
theorem awake_any (w : World) : Calls Try.prog 8 #[] w fun e w' => e = .returned (.bool true) ∧ w = w' := by
  have c1 := fun W => best_any 4 W (by omega) (by omega)
  have c2 := fun W => safe_any 4 3 1 W (by omega) (by omega) (by omega) (by omega) (by omega) (by omega)
  have c3 := fun W => safe_any 4 2 1 W (by omega) (by omega) (by omega) (by omega) (by omega) (by omega)
  have c4 := fun W => overlap_any 5 3 4 W (by omega) (by omega) (by omega) (by omega) (by omega) (by omega)
  rw [b1_4, b2_4] at c1
  rw [sf_431] at c2
  rw [sf_421] at c3
  rw [ov_534] at c4
  have C1 := Lib.hid c1; have C2 := Lib.hid c2; have C3 := Lib.hid c3; have C4 := Lib.hid c4
  clear c1 c2 c3 c4
  go_enter Try.func8, Try.ntmps8
  go_wp2_with (first | (go_at_call 10; refine (C1.out _).mono ?_; rintro e w' ⟨rfl, rfl⟩) | (go_at_call 7; (with_reducible refine (C2.out _).mono ?_); rintro e w' ⟨rfl, rfl⟩) | (go_at_call 7; (with_reducible refine (C3.out _).mono ?_); rintro e w' ⟨rfl, rfl⟩) | (go_at_call 12; refine (C4.out _).mono ?_; rintro e w' ⟨rfl, rfl⟩))
  go_ret
  exact ⟨rfl, rfl⟩
end Go.Proofs.Ytphpamjilmdjmaa.Num
