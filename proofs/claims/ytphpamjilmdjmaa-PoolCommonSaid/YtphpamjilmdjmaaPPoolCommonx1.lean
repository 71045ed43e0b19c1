-- PRINTED BY print.sh 35421559b90ae4d0a3588c463048766b98c2df88dd9212a6774a882060cdf62d: not written by this session
import Derived.Test.YtphpamjilmdjmaaPPoolCommonx0
namespace Go.Proofs.Ytphpamjilmdjmaa.PPoolCommon
open Go.RowKit Go.Proofs.YtphpamjilmdjmaaW.PrintWords Go.Proofs.YtphpamjilmdjmaaW.PrintLast Go.Proofs.YtphpamjilmdjmaaW.PrintMore
attribute [local go_sem] max2_int min2_int max_two min_two max_three min_three max_four min_four   -- for this text's walks alone
set_option linter.unusedVariables false
set_option linter.unusedSimpArgs false

/-! ### keyeventref16_Majority: function 6 -/
def keyeventref16_Majority.f (a0 : Int) (a1 : Int) : Option (Int) := some (wrap64 ((wrap64 (Int.tdiv (wrap64 (a0 + a1)) 2)) + 1))
set_option maxHeartbeats 8000000 in
set_option maxRecDepth 100000 in
theorem keyeventref16_Majority.calls (a0 : Int) (a1 : Int) (r : Int) (w : World) (h : keyeventref16_Majority.f a0 a1 = some r) :
    Calls Try.prog 6 #[.int .i64 a0, .int .i64 a1] w fun e w' => e = .returned (.int .i64 r) ∧ Drawn0 w w' := by
  have H : (some (wrap64 ((wrap64 (Int.tdiv (wrap64 (a0 + a1)) 2)) + 1))) = some r := h
  clear h
  obtain rfl := Option.some.inj H
  go_enter Try.func6, Try.ntmps6
  go_wp2
  go_ret
  exact ⟨by first | rfl | (simp; done) | (simp [*]; done), by repeat (first | exact Drawn0.refl _ | apply Drawn0.step)⟩

/-! ### pool_Overlap: function 12 -/
def pool_Overlap.f (a0 : Int) (a1 : Int) (a2 : Int) : Option (Int) := some (mx (wrap64 ((wrap64 (a1 + a2)) - a0)) 0)
set_option maxHeartbeats 8000000 in
set_option maxRecDepth 100000 in
theorem pool_Overlap.calls (a0 : Int) (a1 : Int) (a2 : Int) (r : Int) (w : World) (h : pool_Overlap.f a0 a1 a2 = some r) :
    Calls Try.prog 12 #[.int .i64 a0, .int .i64 a1, .int .i64 a2] w fun e w' => e = .returned (.int .i64 r) ∧ Below w.heap.size w w' := by
  have HB := Aside0.mk (Below.refl w.heap.size w)
  have H : (some (mx (wrap64 ((wrap64 (a1 + a2)) - a0)) 0)) = some r := h
  clear h
  obtain ⟨ji4, hji4⟩ : ∃ j_ : Int, (mx (wrap64 ((wrap64 (a1 + a2)) - a0)) 0) = j_ := ⟨_, rfl⟩
  replace H : (some ji4) = some r := by first | (rw [hji4] at H; exact H) | (simp only [hji4] at H ⊢; exact H)
  (try (have hji4l : 0 ≤ ji4 := by (rw [← hji4]; unfold mx; (repeat' split) <;> omega)))
  (try (have hji4m : 0 ≤ ji4 := by omega))
  have hji4_ : (if (wrap64 ((wrap64 (a1 + a2)) - a0)) < 0 then 0 else (wrap64 ((wrap64 (a1 + a2)) - a0))) = ji4 := hji4
  obtain rfl := Option.some.inj H
  go_enter Try.func12, Try.ntmps12
  go_wp2
  go_ret
  exact ⟨by first | rfl | (simp [errW_none, errW_some] <;> rfl) | (simp only [← hji4]; first | rfl | (simp [errW_none, errW_some] <;> rfl)) | (simp [*, errW_none, errW_some] <;> rfl), by repeat (first | (with_reducible first | exact HB.out | apply below_alloc | apply pw_below_drewN | apply below_drew1) | exact HB.out)⟩

/-! ### pool_Safe: function 7 -/
def pool_Safe.f (a0 : Int) (a1 : Int) (a2 : Int) : Option (Bool) := if a2 ≥ 0 then ((pool_Overlap.f a0 a1 a1).bind fun t101 => (some (decide (t101 > a2)))) else (some false)
set_option maxHeartbeats 8000000 in
set_option maxRecDepth 100000 in
theorem pool_Safe.calls (a0 : Int) (a1 : Int) (a2 : Int) (r : Bool) (w : World) (h : pool_Safe.f a0 a1 a2 = some r) :
    Calls Try.prog 7 #[.int .i64 a0, .int .i64 a1, .int .i64 a2] w fun e w' => e = .returned (.bool r) ∧ Below w.heap.size w w' := by
  have HB := Aside0.mk (Below.refl w.heap.size w)
  have H : (if a2 ≥ 0 then ((pool_Overlap.f a0 a1 a1).bind fun t101 => (some (decide (t101 > a2)))) else (some false)) = some r := h
  clear h
  by_cases c4 : a2 ≥ 0
  · rw [if_pos c4] at H
    have c4b0 : decide (0 ≤ a2) = true := decide_eq_true c4
    clear c4
    replace H := Option.bind_eq_some_iff.mp H
    obtain ⟨t101, A50, H⟩ := H
    replace H : (some (decide (t101 > a2))) = some r := H
    have A5 := Aside0.mk A50
    clear A50
    obtain rfl := Option.some.inj H
    go_enter Try.func7, Try.ntmps7
    go_wp2_with (first | (go_at_call 12; (with_reducible refine (pool_Overlap.calls a0 a1 a1 t101 _ A5.out).mono ?_); rintro e w6 ⟨rfl, hb⟩; have n0_ := Aside0.mk (below_step (by repeat (first | (with_reducible first | exact HB.out | apply below_alloc | apply pw_below_drewN | apply below_drew1) | exact HB.out)) hb); clear HB; have HB := n0_; clear n0_; (try clear hb); (try clear hb2); (try clear hk); (try clear hi)))
    go_ret
    exact ⟨by first | rfl | (simp [errW_none, errW_some] <;> rfl) | (simp [*, errW_none, errW_some] <;> rfl), by repeat (first | (with_reducible first | exact HB.out | apply below_alloc | apply pw_below_drewN | apply below_drew1) | exact HB.out)⟩
  · rw [if_neg c4] at H
    have c4b0 : decide (0 ≤ a2) = false := decide_eq_false c4
    clear c4
    obtain rfl := Option.some.inj H
    go_enter Try.func7, Try.ntmps7
    go_wp2
    go_ret
    exact ⟨by first | rfl | (simp [errW_none, errW_some] <;> rfl) | (simp [*, errW_none, errW_some] <;> rfl), by repeat (first | (with_reducible first | exact HB.out | apply below_alloc | apply pw_below_drewN | apply below_drew1) | exact HB.out)⟩

/-! ### pool_Best: function 10 -/
def pool_Best.f (a0 : Int) : Option (Int × Int) := if a0 < 1 then (some (0, 0)) else (some (wrap64 (Int.tdiv (wrap64 (a0 - 1)) 3), wrap64 ((wrap64 (Int.tdiv (wrap64 (a0 + (wrap64 (Int.tdiv (wrap64 (a0 - 1)) 3)))) 2)) + 1)))
set_option maxHeartbeats 8000000 in
set_option maxRecDepth 100000 in
theorem pool_Best.calls (a0 : Int) (r1 : Int) (r2 : Int) (w : World) (h : pool_Best.f a0 = some (r1, r2)) :
    Calls Try.prog 10 #[.int .i64 a0] w fun e w' => e = .returned (.tuple #[.int .i64 r1, .int .i64 r2]) ∧ Drawn0 w w' := by
  have H : (if a0 < 1 then (some (0, 0)) else (some (wrap64 (Int.tdiv (wrap64 (a0 - 1)) 3), wrap64 ((wrap64 (Int.tdiv (wrap64 (a0 + (wrap64 (Int.tdiv (wrap64 (a0 - 1)) 3)))) 2)) + 1)))) = some (r1, r2) := h
  clear h
  by_cases c2 : a0 < 1
  · rw [if_pos c2] at H
    have c2b0 : decide (a0 < 1) = true := decide_eq_true c2
    clear c2
    simp only [Option.some.injEq, Prod.mk.injEq] at H
    obtain ⟨rfl, rfl⟩ := H
    go_enter Try.func10, Try.ntmps10
    go_wp2
    go_ret2
    exact ⟨by first | rfl | (simp; done) | (simp [*]; done), by repeat (first | exact Drawn0.refl _ | apply Drawn0.step)⟩
  · rw [if_neg c2] at H
    have c2b0 : decide (a0 < 1) = false := decide_eq_false c2
    clear c2
    simp only [Option.some.injEq, Prod.mk.injEq] at H
    obtain ⟨rfl, rfl⟩ := H
    go_enter Try.func10, Try.ntmps10
    go_wp2
    go_ret2
    exact ⟨by first | rfl | (simp; done) | (simp [*]; done), by repeat (first | exact Drawn0.refl _ | apply Drawn0.step)⟩

/-! ### keyeventlaw24_awake: function 8 -/
def keyeventlaw24_awake.f  : Option (Bool) := (pool_Best.f 4).bind fun bt102 => (if bt102.1 = 1 then (if bt102.2 = 3 then ((pool_Safe.f 4 3 1).bind fun t104 => (if t104 = true then ((pool_Safe.f 4 2 1).bind fun t105 => (if t105 = true then (some false) else ((pool_Overlap.f 5 3 4).bind fun t106 => (some (t106 == 2))))) else (some false))) else (some false)) else (some false))
set_option maxHeartbeats 8000000 in
set_option maxRecDepth 100000 in
theorem keyeventlaw24_awake.calls  (r : Bool) (w : World) (h : keyeventlaw24_awake.f  = some r) :
    Calls Try.prog 8 #[] w fun e w' => e = .returned (.bool r) ∧ Below w.heap.size w w' := by
  have HB := Aside0.mk (Below.refl w.heap.size w)
  have H : ((pool_Best.f 4).bind fun bt102 => (if bt102.1 = 1 then (if bt102.2 = 3 then ((pool_Safe.f 4 3 1).bind fun t104 => (if t104 = true then ((pool_Safe.f 4 2 1).bind fun t105 => (if t105 = true then (some false) else ((pool_Overlap.f 5 3 4).bind fun t106 => (some (t106 == 2))))) else (some false))) else (some false)) else (some false))) = some r := h
  clear h
  replace H := Option.bind_eq_some_iff.mp H
  obtain ⟨⟨t102, t103⟩, A10, H⟩ := H
  replace H : (if t102 = 1 then (if t103 = 3 then ((pool_Safe.f 4 3 1).bind fun t104 => (if t104 = true then ((pool_Safe.f 4 2 1).bind fun t105 => (if t105 = true then (some false) else ((pool_Overlap.f 5 3 4).bind fun t106 => (some (t106 == 2))))) else (some false))) else (some false)) else (some false)) = some r := H
  have A1 := Aside0.mk A10
  clear A10
  by_cases c2 : t102 = 1
  · rw [if_pos c2] at H
    have c2b0 : (t102 == 1) = true := beq_iff_eq.mpr c2
    have c2b1 : (t102 != 1) = false := bne_eq_false_iff_eq.mpr c2
    clear c2
    by_cases c3 : t103 = 3
    · rw [if_pos c3] at H
      have c3b0 : (t103 == 3) = true := beq_iff_eq.mpr c3
      have c3b1 : (t103 != 3) = false := bne_eq_false_iff_eq.mpr c3
      clear c3
      replace H := Option.bind_eq_some_iff.mp H
      obtain ⟨t104, A40, H⟩ := H
      replace H : (if t104 = true then ((pool_Safe.f 4 2 1).bind fun t105 => (if t105 = true then (some false) else ((pool_Overlap.f 5 3 4).bind fun t106 => (some (t106 == 2))))) else (some false)) = some r := H
      have A4 := Aside0.mk A40
      clear A40
      by_cases c5 : t104 = true
      · subst c5
        have H1 : ((pool_Safe.f 4 2 1).bind fun t105 => (if t105 = true then (some false) else ((pool_Overlap.f 5 3 4).bind fun t106 => (some (t106 == 2))))) = some r := by rw [if_pos rfl] at H; exact H
        clear H
        have H := H1
        clear H1
        replace H := Option.bind_eq_some_iff.mp H
        obtain ⟨t105, A60, H⟩ := H
        replace H : (if t105 = true then (some false) else ((pool_Overlap.f 5 3 4).bind fun t106 => (some (t106 == 2)))) = some r := H
        have A6 := Aside0.mk A60
        clear A60
        by_cases c7 : t105 = true
        · subst c7
          have H1 : (some false) = some r := by rw [if_pos rfl] at H; exact H
          clear H
          have H := H1
          clear H1
          obtain rfl := Option.some.inj H
          go_enter Try.func8, Try.ntmps8
          go_wp2_with (first | ((with_reducible refine gate_callee (f := 10) rfl ?_); refine goesL_ (some 4) rfl rfl Try.func10 (by kernel_rfl) rfl #[.int .i64 4] rfl (by (try simp only [List.map_toArray, List.map_cons, List.map_nil]); first | done | rfl | (simp only [List.length_drop, List.length_take]; rfl)) ?_; (with_reducible refine (pool_Best.calls 4 t102 t103 _ A1.out).mono ?_); rintro e w' ⟨rfl, ⟨nd, rfl⟩⟩; refine ⟨_, rfl, ?_⟩) | (go_at_call 7; (with_reducible refine (pool_Safe.calls 4 3 1 true _ A4.out).mono ?_); rintro e w8 ⟨rfl, hb⟩; have n0_ := Aside0.mk (below_step (by repeat (first | (with_reducible first | exact HB.out | apply below_alloc | apply pw_below_drewN | apply below_drew1) | exact HB.out)) hb); clear HB; have HB := n0_; clear n0_; (try clear hb); (try clear hb2); (try clear hk); (try clear hi)) | (go_at_call 7; (with_reducible refine (pool_Safe.calls 4 2 1 true _ A6.out).mono ?_); rintro e w9 ⟨rfl, hb⟩; have n0_ := Aside0.mk (below_step (by repeat (first | (with_reducible first | exact HB.out | apply below_alloc | apply pw_below_drewN | apply below_drew1) | exact HB.out)) hb); clear HB; have HB := n0_; clear n0_; (try clear hb); (try clear hb2); (try clear hk); (try clear hi)))
          go_ret
          exact ⟨by first | rfl | (simp [errW_none, errW_some] <;> rfl) | (simp [*, errW_none, errW_some] <;> rfl), by repeat (first | (with_reducible first | exact HB.out | apply below_alloc | apply pw_below_drewN | apply below_drew1) | exact HB.out)⟩
        · replace c7 := Bool.eq_false_iff.mpr c7
          subst c7
          have H1 : ((pool_Overlap.f 5 3 4).bind fun t106 => (some (t106 == 2))) = some r := by rw [if_neg (show ¬ (false = true) by decide)] at H; exact H
          clear H
          have H := H1
          clear H1
          replace H := Option.bind_eq_some_iff.mp H
          obtain ⟨t106, A100, H⟩ := H
          replace H : (some (t106 == 2)) = some r := H
          have A10 := Aside0.mk A100
          clear A100
          obtain rfl := Option.some.inj H
          go_enter Try.func8, Try.ntmps8
          go_wp2_with (first | ((with_reducible refine gate_callee (f := 10) rfl ?_); refine goesL_ (some 4) rfl rfl Try.func10 (by kernel_rfl) rfl #[.int .i64 4] rfl (by (try simp only [List.map_toArray, List.map_cons, List.map_nil]); first | done | rfl | (simp only [List.length_drop, List.length_take]; rfl)) ?_; (with_reducible refine (pool_Best.calls 4 t102 t103 _ A1.out).mono ?_); rintro e w' ⟨rfl, ⟨nd, rfl⟩⟩; refine ⟨_, rfl, ?_⟩) | (go_at_call 7; (with_reducible refine (pool_Safe.calls 4 3 1 true _ A4.out).mono ?_); rintro e w11 ⟨rfl, hb⟩; have n0_ := Aside0.mk (below_step (by repeat (first | (with_reducible first | exact HB.out | apply below_alloc | apply pw_below_drewN | apply below_drew1) | exact HB.out)) hb); clear HB; have HB := n0_; clear n0_; (try clear hb); (try clear hb2); (try clear hk); (try clear hi)) | (go_at_call 7; (with_reducible refine (pool_Safe.calls 4 2 1 false _ A6.out).mono ?_); rintro e w12 ⟨rfl, hb⟩; have n0_ := Aside0.mk (below_step (by repeat (first | (with_reducible first | exact HB.out | apply below_alloc | apply pw_below_drewN | apply below_drew1) | exact HB.out)) hb); clear HB; have HB := n0_; clear n0_; (try clear hb); (try clear hb2); (try clear hk); (try clear hi)) | (go_at_call 12; (with_reducible refine (pool_Overlap.calls 5 3 4 t106 _ A10.out).mono ?_); rintro e w13 ⟨rfl, hb⟩; have n0_ := Aside0.mk (below_step (by repeat (first | (with_reducible first | exact HB.out | apply below_alloc | apply pw_below_drewN | apply below_drew1) | exact HB.out)) hb); clear HB; have HB := n0_; clear n0_; (try clear hb); (try clear hb2); (try clear hk); (try clear hi)))
          go_ret
          exact ⟨by first | rfl | (simp [errW_none, errW_some] <;> rfl) | (simp [*, errW_none, errW_some] <;> rfl), by repeat (first | (with_reducible first | exact HB.out | apply below_alloc | apply pw_below_drewN | apply below_drew1) | exact HB.out)⟩
      · replace c5 := Bool.eq_false_iff.mpr c5
        subst c5
        have H1 : (some false) = some r := by rw [if_neg (show ¬ (false = true) by decide)] at H; exact H
        clear H
        have H := H1
        clear H1
        obtain rfl := Option.some.inj H
        go_enter Try.func8, Try.ntmps8
        go_wp2_with (first | ((with_reducible refine gate_callee (f := 10) rfl ?_); refine goesL_ (some 4) rfl rfl Try.func10 (by kernel_rfl) rfl #[.int .i64 4] rfl (by (try simp only [List.map_toArray, List.map_cons, List.map_nil]); first | done | rfl | (simp only [List.length_drop, List.length_take]; rfl)) ?_; (with_reducible refine (pool_Best.calls 4 t102 t103 _ A1.out).mono ?_); rintro e w' ⟨rfl, ⟨nd, rfl⟩⟩; refine ⟨_, rfl, ?_⟩) | (go_at_call 7; (with_reducible refine (pool_Safe.calls 4 3 1 false _ A4.out).mono ?_); rintro e w14 ⟨rfl, hb⟩; have n0_ := Aside0.mk (below_step (by repeat (first | (with_reducible first | exact HB.out | apply below_alloc | apply pw_below_drewN | apply below_drew1) | exact HB.out)) hb); clear HB; have HB := n0_; clear n0_; (try clear hb); (try clear hb2); (try clear hk); (try clear hi)))
        go_ret
        exact ⟨by first | rfl | (simp [errW_none, errW_some] <;> rfl) | (simp [*, errW_none, errW_some] <;> rfl), by repeat (first | (with_reducible first | exact HB.out | apply below_alloc | apply pw_below_drewN | apply below_drew1) | exact HB.out)⟩
    · rw [if_neg c3] at H
      have c3b0 : (t103 == 3) = false := beq_eq_false_iff_ne.mpr c3
      have c3b1 : (t103 != 3) = true := bne_iff_ne.mpr c3
      obtain rfl := Option.some.inj H
      go_enter Try.func8, Try.ntmps8
      go_wp2_with (first | ((with_reducible refine gate_callee (f := 10) rfl ?_); refine goesL_ (some 4) rfl rfl Try.func10 (by kernel_rfl) rfl #[.int .i64 4] rfl (by (try simp only [List.map_toArray, List.map_cons, List.map_nil]); first | done | rfl | (simp only [List.length_drop, List.length_take]; rfl)) ?_; (with_reducible refine (pool_Best.calls 4 t102 t103 _ A1.out).mono ?_); rintro e w' ⟨rfl, ⟨nd, rfl⟩⟩; refine ⟨_, rfl, ?_⟩))
      go_ret
      exact ⟨by first | rfl | (simp [errW_none, errW_some] <;> rfl) | (simp [*, errW_none, errW_some] <;> rfl), by repeat (first | (with_reducible first | exact HB.out | apply below_alloc | apply pw_below_drewN | apply below_drew1) | exact HB.out)⟩
  · rw [if_neg c2] at H
    have c2b0 : (t102 == 1) = false := beq_eq_false_iff_ne.mpr c2
    have c2b1 : (t102 != 1) = true := bne_iff_ne.mpr c2
    obtain rfl := Option.some.inj H
    go_enter Try.func8, Try.ntmps8
    go_wp2_with (first | ((with_reducible refine gate_callee (f := 10) rfl ?_); refine goesL_ (some 4) rfl rfl Try.func10 (by kernel_rfl) rfl #[.int .i64 4] rfl (by (try simp only [List.map_toArray, List.map_cons, List.map_nil]); first | done | rfl | (simp only [List.length_drop, List.length_take]; rfl)) ?_; (with_reducible refine (pool_Best.calls 4 t102 t103 _ A1.out).mono ?_); rintro e w' ⟨rfl, ⟨nd, rfl⟩⟩; refine ⟨_, rfl, ?_⟩))
    go_ret
    exact ⟨by first | rfl | (simp [errW_none, errW_some] <;> rfl) | (simp [*, errW_none, errW_some] <;> rfl), by repeat (first | (with_reducible first | exact HB.out | apply below_alloc | apply pw_below_drewN | apply below_drew1) | exact HB.out)⟩

/-! ### keyeventlaw24_PoolCommon: function 3 -/
mutual
def keyeventlaw24_PoolCommon.j0 : Nat → Int → Int → Int → Int → Int → Bool → Option (Bool)
  | 0, _, _, _, _, _, _ => none
  | k + 1, x2, x3, x9, x10, x11, x38 => if x38 = true then (if x11 > x9 then ((keyeventlaw24_awake.f).bind fun t109 => (some t109)) else (some false)) else (keyeventlaw24_PoolCommon.l0 k x2 x3 x9 x10 x11 0 0 0 0)
def keyeventlaw24_PoolCommon.l0 : Nat → Int → Int → Int → Int → Int → Int → Int → Int → Int → Option (Bool)
  | 0, _, _, _, _, _, _, _, _, _ => none
  | k + 1, x2, x3, x9, x10, x11, x12, x13, x14, x15 => if x15 < x9 then (if 0 ≤ x15 then (if (Go.bits .and .u16 (shr .u16 x2 x15) 1) = 1 then (if (Go.bits .and .u16 (shr .u16 x3 x15) 1) = 1 then (keyeventlaw24_PoolCommon.j2 k x2 x3 x9 x10 x11 x12 x13 x14 x15 (decide (x12 < x11)) (decide (x13 < x11))) else (if (wrap64 (x9 - x15)) ≤ (wrap64 (x11 - x13)) then (keyeventlaw24_PoolCommon.j2 k x2 x3 x9 x10 x11 x12 x13 x14 x15 (decide (x12 < x11)) (decide (x13 < x11))) else (keyeventlaw24_PoolCommon.j2 k x2 x3 x9 x10 x11 x12 x13 x14 x15 (decide (x12 < x11)) false))) else (if (wrap64 (x9 - x15)) ≤ (wrap64 (x11 - x12)) then (if (Go.bits .and .u16 (shr .u16 x3 x15) 1) = 1 then (keyeventlaw24_PoolCommon.j2 k x2 x3 x9 x10 x11 x12 x13 x14 x15 (decide (x12 < x11)) (decide (x13 < x11))) else (if (wrap64 (x9 - x15)) ≤ (wrap64 (x11 - x13)) then (keyeventlaw24_PoolCommon.j2 k x2 x3 x9 x10 x11 x12 x13 x14 x15 (decide (x12 < x11)) (decide (x13 < x11))) else (keyeventlaw24_PoolCommon.j2 k x2 x3 x9 x10 x11 x12 x13 x14 x15 (decide (x12 < x11)) false))) else (if (Go.bits .and .u16 (shr .u16 x3 x15) 1) = 1 then (keyeventlaw24_PoolCommon.j2 k x2 x3 x9 x10 x11 x12 x13 x14 x15 false (decide (x13 < x11))) else (if (wrap64 (x9 - x15)) ≤ (wrap64 (x11 - x13)) then (keyeventlaw24_PoolCommon.j2 k x2 x3 x9 x10 x11 x12 x13 x14 x15 false (decide (x13 < x11))) else (keyeventlaw24_PoolCommon.j2 k x2 x3 x9 x10 x11 x12 x13 x14 x15 false false))))) else (none)) else (if x12 = x11 then (if x13 = x11 then (if x14 > x10 then ((keyeventlaw24_awake.f).bind fun t110 => (some t110)) else (some false)) else (some false)) else (some false))
def keyeventlaw24_PoolCommon.j2 : Nat → Int → Int → Int → Int → Int → Int → Int → Int → Int → Bool → Bool → Option (Bool)
  | 0, _, _, _, _, _, _, _, _, _, _, _ => none
  | k + 1, x2, x3, x9, x10, x11, x12, x13, x14, x15, x16, x17 => if x16 = true then (keyeventlaw24_PoolCommon.j3 k x2 x3 x9 x10 x11 (wrap64 (x12 + 1)) x13 x14 x15 x16 x17) else (keyeventlaw24_PoolCommon.j3 k x2 x3 x9 x10 x11 x12 x13 x14 x15 x16 x17)
def keyeventlaw24_PoolCommon.j3 : Nat → Int → Int → Int → Int → Int → Int → Int → Int → Int → Bool → Bool → Option (Bool)
  | 0, _, _, _, _, _, _, _, _, _, _, _ => none
  | k + 1, x2, x3, x9, x10, x11, x12, x13, x14, x15, x16, x17 => if x17 = true then (if x16 = true then (keyeventlaw24_PoolCommon.l0 k x2 x3 x9 x10 x11 x12 (wrap64 (x13 + 1)) (wrap64 (x14 + 1)) (wrap64 (x15 + 1))) else (keyeventlaw24_PoolCommon.l0 k x2 x3 x9 x10 x11 x12 (wrap64 (x13 + 1)) x14 (wrap64 (x15 + 1)))) else (if x16 = true then (keyeventlaw24_PoolCommon.l0 k x2 x3 x9 x10 x11 x12 x13 x14 (wrap64 (x15 + 1))) else (keyeventlaw24_PoolCommon.l0 k x2 x3 x9 x10 x11 x12 x13 x14 (wrap64 (x15 + 1))))
end
def keyeventlaw24_PoolCommon.f (k : Nat) (a0 : Int) (a1 : Int) (a2 : Int) (a3 : Int) : Option (Bool) := if (wrap64 (1 + (wrap64 (Int.tmod a0 9)))) = 0 then (none) else ((keyeventref16_Majority.f (wrap64 (1 + (wrap64 (Int.tmod a0 9)))) (Int.tmod (wrap64 (a1)) (wrap64 (1 + (wrap64 (Int.tmod a0 9)))))).bind fun t107 => (if t107 > (wrap64 (1 + (wrap64 (Int.tmod a0 9)))) then (keyeventlaw24_PoolCommon.j0 k a2 a3 (wrap64 (1 + (wrap64 (Int.tmod a0 9)))) (Int.tmod (wrap64 (a1)) (wrap64 (1 + (wrap64 (Int.tmod a0 9))))) t107 true) else ((pool_Safe.f (wrap64 (1 + (wrap64 (Int.tmod a0 9)))) t107 (Int.tmod (wrap64 (a1)) (wrap64 (1 + (wrap64 (Int.tmod a0 9)))))).bind fun t108 => (keyeventlaw24_PoolCommon.j0 k a2 a3 (wrap64 (1 + (wrap64 (Int.tmod a0 9)))) (Int.tmod (wrap64 (a1)) (wrap64 (1 + (wrap64 (Int.tmod a0 9))))) t107 (!t108)))))
theorem keyeventlaw24_PoolCommon.mono_l : ∀ k, (∀ y0 y1 y2 y3 y4 y5, LeO (keyeventlaw24_PoolCommon.j0 k y0 y1 y2 y3 y4 y5) (keyeventlaw24_PoolCommon.j0 (k + 1) y0 y1 y2 y3 y4 y5)) ∧ (∀ y0 y1 y2 y3 y4 y5 y6 y7 y8, LeO (keyeventlaw24_PoolCommon.l0 k y0 y1 y2 y3 y4 y5 y6 y7 y8) (keyeventlaw24_PoolCommon.l0 (k + 1) y0 y1 y2 y3 y4 y5 y6 y7 y8)) ∧ (∀ y0 y1 y2 y3 y4 y5 y6 y7 y8 y9 y10, LeO (keyeventlaw24_PoolCommon.j2 k y0 y1 y2 y3 y4 y5 y6 y7 y8 y9 y10) (keyeventlaw24_PoolCommon.j2 (k + 1) y0 y1 y2 y3 y4 y5 y6 y7 y8 y9 y10)) ∧ (∀ y0 y1 y2 y3 y4 y5 y6 y7 y8 y9 y10, LeO (keyeventlaw24_PoolCommon.j3 k y0 y1 y2 y3 y4 y5 y6 y7 y8 y9 y10) (keyeventlaw24_PoolCommon.j3 (k + 1) y0 y1 y2 y3 y4 y5 y6 y7 y8 y9 y10))
  | 0 => ⟨fun _ _ _ _ _ _ r h => by simp [keyeventlaw24_PoolCommon.j0] at h, fun _ _ _ _ _ _ _ _ _ r h => by simp [keyeventlaw24_PoolCommon.l0] at h, fun _ _ _ _ _ _ _ _ _ _ _ r h => by simp [keyeventlaw24_PoolCommon.j2] at h, fun _ _ _ _ _ _ _ _ _ _ _ r h => by simp [keyeventlaw24_PoolCommon.j3] at h⟩
  | k + 1 => by
    obtain ⟨ih0, ih1, ih2, ih3⟩ := keyeventlaw24_PoolCommon.mono_l k
    refine ⟨?_, ?_, ?_, ?_⟩
    · intro y0 y1 y2 y3 y4 y5
      unfold keyeventlaw24_PoolCommon.j0
      repeat' first
      | (with_reducible exact ih0 _ _ _ _ _ _)
      | (with_reducible exact ih1 _ _ _ _ _ _ _ _ _)
      | (with_reducible exact ih2 _ _ _ _ _ _ _ _ _ _ _)
      | (with_reducible exact ih3 _ _ _ _ _ _ _ _ _ _ _)
      | (with_reducible exact LeO.refl _)
      | (with_reducible exact LeO.none _)
      | (with_reducible refine LeO.ite ?_ ?_)
      | (with_reducible refine LeO.bind ?_ (fun _ => ?_))
      | exact ih0 _ _ _ _ _ _
      | exact ih1 _ _ _ _ _ _ _ _ _
      | exact ih2 _ _ _ _ _ _ _ _ _ _ _
      | exact ih3 _ _ _ _ _ _ _ _ _ _ _
      | exact LeO.none _
      | refine LeO.ite ?_ ?_
      | refine LeO.bind ?_ (fun _ => ?_)
    · intro y0 y1 y2 y3 y4 y5 y6 y7 y8
      unfold keyeventlaw24_PoolCommon.l0
      repeat' first
      | (with_reducible exact ih0 _ _ _ _ _ _)
      | (with_reducible exact ih1 _ _ _ _ _ _ _ _ _)
      | (with_reducible exact ih2 _ _ _ _ _ _ _ _ _ _ _)
      | (with_reducible exact ih3 _ _ _ _ _ _ _ _ _ _ _)
      | (with_reducible exact LeO.refl _)
      | (with_reducible exact LeO.none _)
      | (with_reducible refine LeO.ite ?_ ?_)
      | (with_reducible refine LeO.bind ?_ (fun _ => ?_))
      | exact ih0 _ _ _ _ _ _
      | exact ih1 _ _ _ _ _ _ _ _ _
      | exact ih2 _ _ _ _ _ _ _ _ _ _ _
      | exact ih3 _ _ _ _ _ _ _ _ _ _ _
      | exact LeO.none _
      | refine LeO.ite ?_ ?_
      | refine LeO.bind ?_ (fun _ => ?_)
    · intro y0 y1 y2 y3 y4 y5 y6 y7 y8 y9 y10
      unfold keyeventlaw24_PoolCommon.j2
      repeat' first
      | (with_reducible exact ih0 _ _ _ _ _ _)
      | (with_reducible exact ih1 _ _ _ _ _ _ _ _ _)
      | (with_reducible exact ih2 _ _ _ _ _ _ _ _ _ _ _)
      | (with_reducible exact ih3 _ _ _ _ _ _ _ _ _ _ _)
      | (with_reducible exact LeO.refl _)
      | (with_reducible exact LeO.none _)
      | (with_reducible refine LeO.ite ?_ ?_)
      | (with_reducible refine LeO.bind ?_ (fun _ => ?_))
      | exact ih0 _ _ _ _ _ _
      | exact ih1 _ _ _ _ _ _ _ _ _
      | exact ih2 _ _ _ _ _ _ _ _ _ _ _
      | exact ih3 _ _ _ _ _ _ _ _ _ _ _
      | exact LeO.none _
      | refine LeO.ite ?_ ?_
      | refine LeO.bind ?_ (fun _ => ?_)
    · intro y0 y1 y2 y3 y4 y5 y6 y7 y8 y9 y10
      unfold keyeventlaw24_PoolCommon.j3
      repeat' first
      | (with_reducible exact ih0 _ _ _ _ _ _)
      | (with_reducible exact ih1 _ _ _ _ _ _ _ _ _)
      | (with_reducible exact ih2 _ _ _ _ _ _ _ _ _ _ _)
      | (with_reducible exact ih3 _ _ _ _ _ _ _ _ _ _ _)
      | (with_reducible exact LeO.refl _)
      | (with_reducible exact LeO.none _)
      | (with_reducible refine LeO.ite ?_ ?_)
      | (with_reducible refine LeO.bind ?_ (fun _ => ?_))
      | exact ih0 _ _ _ _ _ _
      | exact ih1 _ _ _ _ _ _ _ _ _
      | exact ih2 _ _ _ _ _ _ _ _ _ _ _
      | exact ih3 _ _ _ _ _ _ _ _ _ _ _
      | exact LeO.none _
      | refine LeO.ite ?_ ?_
      | refine LeO.bind ?_ (fun _ => ?_)
theorem keyeventlaw24_PoolCommon.mono : ∀ a0 a1 a2 a3 k, LeO (keyeventlaw24_PoolCommon.f k a0 a1 a2 a3) (keyeventlaw24_PoolCommon.f (k + 1) a0 a1 a2 a3) := by
  intro a0 a1 a2 a3 k
  obtain ⟨ih0, ih1, ih2, ih3⟩ := keyeventlaw24_PoolCommon.mono_l k
  unfold keyeventlaw24_PoolCommon.f
  repeat' first
      | (with_reducible exact ih0 _ _ _ _ _ _)
      | (with_reducible exact ih1 _ _ _ _ _ _ _ _ _)
      | (with_reducible exact ih2 _ _ _ _ _ _ _ _ _ _ _)
      | (with_reducible exact ih3 _ _ _ _ _ _ _ _ _ _ _)
      | (with_reducible exact LeO.refl _)
      | (with_reducible exact LeO.none _)
      | (with_reducible refine LeO.ite ?_ ?_)
      | (with_reducible refine LeO.bind ?_ (fun _ => ?_))
      | exact ih0 _ _ _ _ _ _
      | exact ih1 _ _ _ _ _ _ _ _ _
      | exact ih2 _ _ _ _ _ _ _ _ _ _ _
      | exact ih3 _ _ _ _ _ _ _ _ _ _ _
      | exact LeO.none _
      | refine LeO.ite ?_ ?_
      | refine LeO.bind ?_ (fun _ => ?_)
set_option maxHeartbeats 8000000 in
set_option maxRecDepth 100000 in
theorem keyeventlaw24_PoolCommon.calls (k : Nat) (a0 : Int) (a1 : Int) (a2 : Int) (a3 : Int) (r : Bool) (w : World) (h : keyeventlaw24_PoolCommon.f k a0 a1 a2 a3 = some r) :
    Calls Try.prog 3 #[.int .u8 a0, .int .u8 a1, .int .u16 a2, .int .u16 a3] w fun e w' => e = .returned (.bool r) ∧ Below w.heap.size w w' := by
  have HB := Aside0.mk (Below.refl w.heap.size w)
  have H : (if (wrap64 (1 + (wrap64 (Int.tmod a0 9)))) = 0 then (none) else ((keyeventref16_Majority.f (wrap64 (1 + (wrap64 (Int.tmod a0 9)))) (Int.tmod (wrap64 (a1)) (wrap64 (1 + (wrap64 (Int.tmod a0 9)))))).bind fun t107 => (if t107 > (wrap64 (1 + (wrap64 (Int.tmod a0 9)))) then (keyeventlaw24_PoolCommon.j0 k a2 a3 (wrap64 (1 + (wrap64 (Int.tmod a0 9)))) (Int.tmod (wrap64 (a1)) (wrap64 (1 + (wrap64 (Int.tmod a0 9))))) t107 true) else ((pool_Safe.f (wrap64 (1 + (wrap64 (Int.tmod a0 9)))) t107 (Int.tmod (wrap64 (a1)) (wrap64 (1 + (wrap64 (Int.tmod a0 9)))))).bind fun t108 => (keyeventlaw24_PoolCommon.j0 k a2 a3 (wrap64 (1 + (wrap64 (Int.tmod a0 9)))) (Int.tmod (wrap64 (a1)) (wrap64 (1 + (wrap64 (Int.tmod a0 9))))) t107 (!t108)))))) = some r := h
  clear h
  by_cases c5 : (wrap64 (1 + (wrap64 (Int.tmod a0 9)))) = 0
  · rw [if_pos c5] at H
    exact absurd H (by simp)
  · rw [if_neg c5] at H
    have c5b0 : ((wrap64 (1 + (wrap64 (Int.tmod a0 9)))) == 0) = false := beq_eq_false_iff_ne.mpr c5
    have c5b1 : ((wrap64 (1 + (wrap64 (Int.tmod a0 9)))) != 0) = true := bne_iff_ne.mpr c5
    replace H := Option.bind_eq_some_iff.mp H
    obtain ⟨t107, A60, H⟩ := H
    replace H : (if t107 > (wrap64 (1 + (wrap64 (Int.tmod a0 9)))) then (keyeventlaw24_PoolCommon.j0 k a2 a3 (wrap64 (1 + (wrap64 (Int.tmod a0 9)))) (Int.tmod (wrap64 (a1)) (wrap64 (1 + (wrap64 (Int.tmod a0 9))))) t107 true) else ((pool_Safe.f (wrap64 (1 + (wrap64 (Int.tmod a0 9)))) t107 (Int.tmod (wrap64 (a1)) (wrap64 (1 + (wrap64 (Int.tmod a0 9)))))).bind fun t108 => (keyeventlaw24_PoolCommon.j0 k a2 a3 (wrap64 (1 + (wrap64 (Int.tmod a0 9)))) (Int.tmod (wrap64 (a1)) (wrap64 (1 + (wrap64 (Int.tmod a0 9))))) t107 (!t108)))) = some r := H
    have A6 := Aside0.mk A60
    clear A60
    have HC7 := Aside0.mk H
    clear H
    go_enter Try.func3, Try.ntmps3
    go_upto_region 4 with (first | (go_at_call 6; (with_reducible refine (keyeventref16_Majority.calls (wrap64 (1 + (wrap64 (Int.tmod a0 9)))) (Int.tmod (wrap64 (a1)) (wrap64 (1 + (wrap64 (Int.tmod a0 9))))) t107 _ A6.out).mono ?_); rintro e w' ⟨rfl, ⟨nd, rfl⟩⟩; (try first | exact ⟨rfl, _, World.drewN_drewN _ _ _⟩ | exact ⟨rfl, _, Eq.trans (World.drewN_drewN _ _ _) (congrArg (World.drewN _) (Nat.add_assoc _ _ _))⟩)))
    repeat (go_quiet (first | (go_at_call 6; (with_reducible refine (keyeventref16_Majority.calls (wrap64 (1 + (wrap64 (Int.tmod a0 9)))) (Int.tmod (wrap64 (a1)) (wrap64 (1 + (wrap64 (Int.tmod a0 9))))) t107 _ A6.out).mono ?_); rintro e w' ⟨rfl, ⟨nd, rfl⟩⟩; (try first | exact ⟨rfl, _, World.drewN_drewN _ _ _⟩ | exact ⟨rfl, _, Eq.trans (World.drewN_drewN _ _ _) (congrArg (World.drewN _) (Nat.add_assoc _ _ _))⟩))); go_upto_region 4 with (first | (go_at_call 6; (with_reducible refine (keyeventref16_Majority.calls (wrap64 (1 + (wrap64 (Int.tmod a0 9)))) (Int.tmod (wrap64 (a1)) (wrap64 (1 + (wrap64 (Int.tmod a0 9))))) t107 _ A6.out).mono ?_); rintro e w' ⟨rfl, ⟨nd, rfl⟩⟩; (try first | exact ⟨rfl, _, World.drewN_drewN _ _ _⟩ | exact ⟨rfl, _, Eq.trans (World.drewN_drewN _ _ _) (congrArg (World.drewN _) (Nat.add_assoc _ _ _))⟩))))
    (try simp only [Act.put, List.setIfInBounds_toArray, List.set_cons_zero, List.set_cons_succ])
    go_cut [38] (fun v38 wc => ∃ (kq : Nat) (x38_6 : Bool), v38 = .bool x38_6 ∧ Aside0 (keyeventlaw24_PoolCommon.j0 kq a2 a3 (wrap64 (1 + (wrap64 (Int.tmod a0 9)))) (Int.tmod (wrap64 (a1)) (wrap64 (1 + (wrap64 (Int.tmod a0 9))))) t107 x38_6 = some r) ∧ Aside0 (kq ≤ k) ∧ Aside0 (Below w.heap.size w wc))
    case first =>
      have H := HC7.out
      clear HC7
      by_cases c8 : t107 > (wrap64 (1 + (wrap64 (Int.tmod a0 9))))
      · rw [if_pos c8] at H
        have c8b0 : decide ((wrap64 (1 + (wrap64 (Int.tmod a0 9)))) < t107) = true := decide_eq_true c8
        clear c8
        (first | rw [c8b0] | (simp only [i64_w, i32_w]; rw [c8b0]) | skip)
        have H' := Aside0.mk H
        clear H
        go_wp2
        repeat (go_quiet (fail); try go_wp2)
        go_meet
        case rel => exact ⟨_, (true), (by first | rfl | (simp; done) | (simp [*]; done)), H', ⟨by first | omega | exact Nat.le_refl _⟩, ⟨by repeat (first | (with_reducible first | exact HB.out | apply below_alloc | apply pw_below_drewN | apply below_drew1) | exact HB.out)⟩⟩
      · rw [if_neg c8] at H
        have c8b0 : decide ((wrap64 (1 + (wrap64 (Int.tmod a0 9)))) < t107) = false := decide_eq_false c8
        clear c8
        (first | rw [c8b0] | (simp only [i64_w, i32_w]; rw [c8b0]) | skip)
        replace H := Option.bind_eq_some_iff.mp H
        obtain ⟨t108, A90, H⟩ := H
        replace H : (keyeventlaw24_PoolCommon.j0 k a2 a3 (wrap64 (1 + (wrap64 (Int.tmod a0 9)))) (Int.tmod (wrap64 (a1)) (wrap64 (1 + (wrap64 (Int.tmod a0 9))))) t107 (!t108)) = some r := H
        have A9 := Aside0.mk A90
        clear A90
        have H' := Aside0.mk H
        clear H
        go_wp2_with (first | (go_at_call 7; (with_reducible refine (pool_Safe.calls (wrap64 (1 + (wrap64 (Int.tmod a0 9)))) t107 (Int.tmod (wrap64 (a1)) (wrap64 (1 + (wrap64 (Int.tmod a0 9))))) t108 _ A9.out).mono ?_); rintro e w10 ⟨rfl, hb⟩; have n0_ := Aside0.mk (below_step (by repeat (first | (with_reducible first | exact HB.out | apply below_alloc | apply pw_below_drewN | apply below_drew1) | exact HB.out)) hb); clear HB; have HB := n0_; clear n0_; (try clear hb); (try clear hb2); (try clear hk); (try clear hi)))
        repeat (go_quiet (first | (go_at_call 7; (with_reducible refine (pool_Safe.calls (wrap64 (1 + (wrap64 (Int.tmod a0 9)))) t107 (Int.tmod (wrap64 (a1)) (wrap64 (1 + (wrap64 (Int.tmod a0 9))))) t108 _ A9.out).mono ?_); rintro e w10 ⟨rfl, hb⟩; have n0_ := Aside0.mk (below_step (by repeat (first | (with_reducible first | exact HB.out | apply below_alloc | apply pw_below_drewN | apply below_drew1) | exact HB.out)) hb); clear HB; have HB := n0_; clear n0_; (try clear hb); (try clear hb2); (try clear hk); (try clear hi))); try go_wp2_with (first | (go_at_call 7; (with_reducible refine (pool_Safe.calls (wrap64 (1 + (wrap64 (Int.tmod a0 9)))) t107 (Int.tmod (wrap64 (a1)) (wrap64 (1 + (wrap64 (Int.tmod a0 9))))) t108 _ A9.out).mono ?_); rintro e w10 ⟨rfl, hb⟩; have n0_ := Aside0.mk (below_step (by repeat (first | (with_reducible first | exact HB.out | apply below_alloc | apply pw_below_drewN | apply below_drew1) | exact HB.out)) hb); clear HB; have HB := n0_; clear n0_; (try clear hb); (try clear hb2); (try clear hk); (try clear hi))))
        go_meet
        case rel => exact ⟨_, (!t108), (by first | rfl | (simp; done) | (simp [*]; done)), H', ⟨by first | omega | exact Nat.le_refl _⟩, ⟨by repeat (first | (with_reducible first | exact HB.out | apply below_alloc | apply pw_below_drewN | apply below_drew1) | exact HB.out)⟩⟩
    case rest =>
      clear HC7
      try clear p2
      try clear c3
      try clear c5
      try clear c5b0
      try clear c5b1
      try clear p6
      try clear c8
      try clear c8b0
      obtain ⟨kq, x38_6, rfl, HA, HJ6, HB⟩ := hcut
      cases kq with
      | zero => exact absurd HA.out (by simp [keyeventlaw24_PoolCommon.j0])
      | succ kj6 =>
        have H := HA.out
        clear HA
        simp only [keyeventlaw24_PoolCommon.j0] at H
        by_cases c11 : x38_6 = true
        · subst c11
          have H1 : (if t107 > (wrap64 (1 + (wrap64 (Int.tmod a0 9)))) then ((keyeventlaw24_awake.f).bind fun t109 => (some t109)) else (some false)) = some r := by rw [if_pos rfl] at H; exact H
          clear H
          have H := H1
          clear H1
          by_cases c12 : t107 > (wrap64 (1 + (wrap64 (Int.tmod a0 9))))
          · rw [if_pos c12] at H
            have c12b0 : decide ((wrap64 (1 + (wrap64 (Int.tmod a0 9)))) < t107) = true := decide_eq_true c12
            clear c12
            replace H := Option.bind_eq_some_iff.mp H
            obtain ⟨t109, A130, H⟩ := H
            replace H : (some t109) = some r := H
            have A13 := Aside0.mk A130
            clear A130
            obtain rfl := Option.some.inj H
            go_wp2_with (first | (go_at_call 8; (with_reducible refine (keyeventlaw24_awake.calls  t109 _ A13.out).mono ?_); rintro e w14 ⟨rfl, hb⟩; have n0_ := Aside0.mk (below_step (by repeat (first | (with_reducible first | exact HB.out | apply below_alloc | apply pw_below_drewN | apply below_drew1) | exact HB.out)) hb); clear HB; have HB := n0_; clear n0_; (try clear hb); (try clear hb2); (try clear hk); (try clear hi)))
            repeat (go_quiet (first | (go_at_call 8; (with_reducible refine (keyeventlaw24_awake.calls  t109 _ A13.out).mono ?_); rintro e w14 ⟨rfl, hb⟩; have n0_ := Aside0.mk (below_step (by repeat (first | (with_reducible first | exact HB.out | apply below_alloc | apply pw_below_drewN | apply below_drew1) | exact HB.out)) hb); clear HB; have HB := n0_; clear n0_; (try clear hb); (try clear hb2); (try clear hk); (try clear hi))); try go_wp2_with (first | (go_at_call 8; (with_reducible refine (keyeventlaw24_awake.calls  t109 _ A13.out).mono ?_); rintro e w14 ⟨rfl, hb⟩; have n0_ := Aside0.mk (below_step (by repeat (first | (with_reducible first | exact HB.out | apply below_alloc | apply pw_below_drewN | apply below_drew1) | exact HB.out)) hb); clear HB; have HB := n0_; clear n0_; (try clear hb); (try clear hb2); (try clear hk); (try clear hi))))
            go_ret
            exact ⟨by first | rfl | (simp [errW_none, errW_some] <;> rfl) | (simp [*, errW_none, errW_some] <;> rfl), by repeat (first | (with_reducible first | exact HB.out | apply below_alloc | apply pw_below_drewN | apply below_drew1) | exact HB.out)⟩
          · rw [if_neg c12] at H
            have c12b0 : decide ((wrap64 (1 + (wrap64 (Int.tmod a0 9)))) < t107) = false := decide_eq_false c12
            clear c12
            obtain rfl := Option.some.inj H
            go_wp2
            repeat (go_quiet (fail); try go_wp2)
            go_ret
            exact ⟨by first | rfl | (simp [errW_none, errW_some] <;> rfl) | (simp [*, errW_none, errW_some] <;> rfl), by repeat (first | (with_reducible first | exact HB.out | apply below_alloc | apply pw_below_drewN | apply below_drew1) | exact HB.out)⟩
        · replace c11 := Bool.eq_false_iff.mpr c11
          subst c11
          have H1 : (keyeventlaw24_PoolCommon.l0 kj6 a2 a3 (wrap64 (1 + (wrap64 (Int.tmod a0 9)))) (Int.tmod (wrap64 (a1)) (wrap64 (1 + (wrap64 (Int.tmod a0 9))))) t107 0 0 0 0) = some r := by rw [if_neg (show ¬ (false = true) by decide)] at H; exact H
          clear H
          have H := H1
          clear H1
          have H' := Aside0.mk H
          clear H
          go_wp2
          repeat (go_quiet (fail); try go_wp2)
          go_loopg [12, 13, 14, 15] kj6 (fun kq v12 v13 v14 v15 w' => ∃ (x12_2 : Int) (x13_2 : Int) (x14_2 : Int) (x15_2 : Int), v12 = .int .i64 x12_2 ∧ v13 = .int .i64 x13_2 ∧ v14 = .int .i64 x14_2 ∧ v15 = .int .i64 x15_2 ∧ Aside0 (keyeventlaw24_PoolCommon.l0 kq a2 a3 (wrap64 (1 + (wrap64 (Int.tmod a0 9)))) (Int.tmod (wrap64 (a1)) (wrap64 (1 + (wrap64 (Int.tmod a0 9))))) t107 x12_2 x13_2 x14_2 x15_2 = some r) ∧ Aside0 (kq ≤ kj6) ∧ Aside0 (Below w.heap.size w w'))
          case atStart => exact ⟨(0), (0), (0), (0), (by first | rfl | (simp; done) | (simp [*]; done)), (by first | rfl | (simp; done) | (simp [*]; done)), (by first | rfl | (simp; done) | (simp [*]; done)), (by first | rfl | (simp; done) | (simp [*]; done)), H', ⟨Nat.le_refl _⟩, ⟨by repeat (first | (with_reducible first | exact HB.out | apply below_alloc | apply pw_below_drewN | apply below_drew1) | exact HB.out)⟩⟩
          case round =>
            clear H'
            try clear c1
            try clear p2
            try clear c3
            try clear c5
            try clear c5b0
            try clear c5b1
            try clear p6
            try clear c8
            try clear c8b0
            try clear c11
            try clear c12
            try clear c12b0
            try clear p2
            try clear p6
            obtain ⟨x12_2, x13_2, x14_2, x15_2, rfl, rfl, rfl, rfl, HA, HK2, HB⟩ := hrel
            cases gk with
            | zero => exact absurd HA.out (by simp [keyeventlaw24_PoolCommon.l0])
            | succ k2 =>
              have H := HA.out
              clear HA
              simp only [keyeventlaw24_PoolCommon.l0] at H
              by_cases c15 : x15_2 < (wrap64 (1 + (wrap64 (Int.tmod a0 9))))
              · rw [if_pos c15] at H
                have c15b0 : decide (x15_2 < (wrap64 (1 + (wrap64 (Int.tmod a0 9))))) = true := decide_eq_true c15
                clear c15
                by_cases c16 : 0 ≤ x15_2
                · rw [if_pos c16] at H
                  have c16b0 := eq_true c16
                  have c16b1 : decide (0 ≤ x15_2) = true := decide_eq_true c16
                  clear c16
                  obtain ⟨ji17, hji17⟩ : ∃ j_ : Int, (shr .u16 a2 x15_2) = j_ := ⟨_, rfl⟩
                  replace H : (if (Go.bits .and .u16 (ji17) 1) = 1 then (if (Go.bits .and .u16 (shr .u16 a3 x15_2) 1) = 1 then (keyeventlaw24_PoolCommon.j2 k2 a2 a3 (wrap64 (1 + (wrap64 (Int.tmod a0 9)))) (Int.tmod (wrap64 (a1)) (wrap64 (1 + (wrap64 (Int.tmod a0 9))))) t107 x12_2 x13_2 x14_2 x15_2 (decide (x12_2 < t107)) (decide (x13_2 < t107))) else (if (wrap64 ((wrap64 (1 + (wrap64 (Int.tmod a0 9)))) - x15_2)) ≤ (wrap64 (t107 - x13_2)) then (keyeventlaw24_PoolCommon.j2 k2 a2 a3 (wrap64 (1 + (wrap64 (Int.tmod a0 9)))) (Int.tmod (wrap64 (a1)) (wrap64 (1 + (wrap64 (Int.tmod a0 9))))) t107 x12_2 x13_2 x14_2 x15_2 (decide (x12_2 < t107)) (decide (x13_2 < t107))) else (keyeventlaw24_PoolCommon.j2 k2 a2 a3 (wrap64 (1 + (wrap64 (Int.tmod a0 9)))) (Int.tmod (wrap64 (a1)) (wrap64 (1 + (wrap64 (Int.tmod a0 9))))) t107 x12_2 x13_2 x14_2 x15_2 (decide (x12_2 < t107)) false))) else (if (wrap64 ((wrap64 (1 + (wrap64 (Int.tmod a0 9)))) - x15_2)) ≤ (wrap64 (t107 - x12_2)) then (if (Go.bits .and .u16 (shr .u16 a3 x15_2) 1) = 1 then (keyeventlaw24_PoolCommon.j2 k2 a2 a3 (wrap64 (1 + (wrap64 (Int.tmod a0 9)))) (Int.tmod (wrap64 (a1)) (wrap64 (1 + (wrap64 (Int.tmod a0 9))))) t107 x12_2 x13_2 x14_2 x15_2 (decide (x12_2 < t107)) (decide (x13_2 < t107))) else (if (wrap64 ((wrap64 (1 + (wrap64 (Int.tmod a0 9)))) - x15_2)) ≤ (wrap64 (t107 - x13_2)) then (keyeventlaw24_PoolCommon.j2 k2 a2 a3 (wrap64 (1 + (wrap64 (Int.tmod a0 9)))) (Int.tmod (wrap64 (a1)) (wrap64 (1 + (wrap64 (Int.tmod a0 9))))) t107 x12_2 x13_2 x14_2 x15_2 (decide (x12_2 < t107)) (decide (x13_2 < t107))) else (keyeventlaw24_PoolCommon.j2 k2 a2 a3 (wrap64 (1 + (wrap64 (Int.tmod a0 9)))) (Int.tmod (wrap64 (a1)) (wrap64 (1 + (wrap64 (Int.tmod a0 9))))) t107 x12_2 x13_2 x14_2 x15_2 (decide (x12_2 < t107)) false))) else (if (Go.bits .and .u16 (shr .u16 a3 x15_2) 1) = 1 then (keyeventlaw24_PoolCommon.j2 k2 a2 a3 (wrap64 (1 + (wrap64 (Int.tmod a0 9)))) (Int.tmod (wrap64 (a1)) (wrap64 (1 + (wrap64 (Int.tmod a0 9))))) t107 x12_2 x13_2 x14_2 x15_2 false (decide (x13_2 < t107))) else (if (wrap64 ((wrap64 (1 + (wrap64 (Int.tmod a0 9)))) - x15_2)) ≤ (wrap64 (t107 - x13_2)) then (keyeventlaw24_PoolCommon.j2 k2 a2 a3 (wrap64 (1 + (wrap64 (Int.tmod a0 9)))) (Int.tmod (wrap64 (a1)) (wrap64 (1 + (wrap64 (Int.tmod a0 9))))) t107 x12_2 x13_2 x14_2 x15_2 false (decide (x13_2 < t107))) else (keyeventlaw24_PoolCommon.j2 k2 a2 a3 (wrap64 (1 + (wrap64 (Int.tmod a0 9)))) (Int.tmod (wrap64 (a1)) (wrap64 (1 + (wrap64 (Int.tmod a0 9))))) t107 x12_2 x13_2 x14_2 x15_2 false false))))) = some r := by first | (rw [hji17] at H; exact H) | (simp only [hji17] at H ⊢; exact H)
                  have hji17_ : (a2 / 2 ^ min x15_2.toNat 16) = ji17 := hji17
                  have hji17z : x15_2 ≤ 16 → (a2 / 2 ^ x15_2.toNat) = ji17 := shr_small hji17
                  have c18b0 := eq_true (of_decide_eq_true (by first | (with_reducible assumption) | assumption) : 0 ≤ x15_2)
                  obtain ⟨ji19, hji19⟩ : ∃ j_ : Int, (shr .u16 a3 x15_2) = j_ := ⟨_, rfl⟩
                  replace H : (if (Go.bits .and .u16 (ji17) 1) = 1 then (if (Go.bits .and .u16 (ji19) 1) = 1 then (keyeventlaw24_PoolCommon.j2 k2 a2 a3 (wrap64 (1 + (wrap64 (Int.tmod a0 9)))) (Int.tmod (wrap64 (a1)) (wrap64 (1 + (wrap64 (Int.tmod a0 9))))) t107 x12_2 x13_2 x14_2 x15_2 (decide (x12_2 < t107)) (decide (x13_2 < t107))) else (if (wrap64 ((wrap64 (1 + (wrap64 (Int.tmod a0 9)))) - x15_2)) ≤ (wrap64 (t107 - x13_2)) then (keyeventlaw24_PoolCommon.j2 k2 a2 a3 (wrap64 (1 + (wrap64 (Int.tmod a0 9)))) (Int.tmod (wrap64 (a1)) (wrap64 (1 + (wrap64 (Int.tmod a0 9))))) t107 x12_2 x13_2 x14_2 x15_2 (decide (x12_2 < t107)) (decide (x13_2 < t107))) else (keyeventlaw24_PoolCommon.j2 k2 a2 a3 (wrap64 (1 + (wrap64 (Int.tmod a0 9)))) (Int.tmod (wrap64 (a1)) (wrap64 (1 + (wrap64 (Int.tmod a0 9))))) t107 x12_2 x13_2 x14_2 x15_2 (decide (x12_2 < t107)) false))) else (if (wrap64 ((wrap64 (1 + (wrap64 (Int.tmod a0 9)))) - x15_2)) ≤ (wrap64 (t107 - x12_2)) then (if (Go.bits .and .u16 (ji19) 1) = 1 then (keyeventlaw24_PoolCommon.j2 k2 a2 a3 (wrap64 (1 + (wrap64 (Int.tmod a0 9)))) (Int.tmod (wrap64 (a1)) (wrap64 (1 + (wrap64 (Int.tmod a0 9))))) t107 x12_2 x13_2 x14_2 x15_2 (decide (x12_2 < t107)) (decide (x13_2 < t107))) else (if (wrap64 ((wrap64 (1 + (wrap64 (Int.tmod a0 9)))) - x15_2)) ≤ (wrap64 (t107 - x13_2)) then (keyeventlaw24_PoolCommon.j2 k2 a2 a3 (wrap64 (1 + (wrap64 (Int.tmod a0 9)))) (Int.tmod (wrap64 (a1)) (wrap64 (1 + (wrap64 (Int.tmod a0 9))))) t107 x12_2 x13_2 x14_2 x15_2 (decide (x12_2 < t107)) (decide (x13_2 < t107))) else (keyeventlaw24_PoolCommon.j2 k2 a2 a3 (wrap64 (1 + (wrap64 (Int.tmod a0 9)))) (Int.tmod (wrap64 (a1)) (wrap64 (1 + (wrap64 (Int.tmod a0 9))))) t107 x12_2 x13_2 x14_2 x15_2 (decide (x12_2 < t107)) false))) else (if (Go.bits .and .u16 (ji19) 1) = 1 then (keyeventlaw24_PoolCommon.j2 k2 a2 a3 (wrap64 (1 + (wrap64 (Int.tmod a0 9)))) (Int.tmod (wrap64 (a1)) (wrap64 (1 + (wrap64 (Int.tmod a0 9))))) t107 x12_2 x13_2 x14_2 x15_2 false (decide (x13_2 < t107))) else (if (wrap64 ((wrap64 (1 + (wrap64 (Int.tmod a0 9)))) - x15_2)) ≤ (wrap64 (t107 - x13_2)) then (keyeventlaw24_PoolCommon.j2 k2 a2 a3 (wrap64 (1 + (wrap64 (Int.tmod a0 9)))) (Int.tmod (wrap64 (a1)) (wrap64 (1 + (wrap64 (Int.tmod a0 9))))) t107 x12_2 x13_2 x14_2 x15_2 false (decide (x13_2 < t107))) else (keyeventlaw24_PoolCommon.j2 k2 a2 a3 (wrap64 (1 + (wrap64 (Int.tmod a0 9)))) (Int.tmod (wrap64 (a1)) (wrap64 (1 + (wrap64 (Int.tmod a0 9))))) t107 x12_2 x13_2 x14_2 x15_2 false false))))) = some r := by first | (rw [hji19] at H; exact H) | (simp only [hji19] at H ⊢; exact H)
                  have hji19_ : (a3 / 2 ^ min x15_2.toNat 16) = ji19 := hji19
                  have hji19z : x15_2 ≤ 16 → (a3 / 2 ^ x15_2.toNat) = ji19 := shr_small hji19
                  have HC20 := Aside0.mk H
                  clear H
                  go_upto_region 11 with (fail)
                  repeat (go_quiet (fail); go_upto_region 11 with (fail))
                  go_cut [16, 17] (fun v16 v17 wc => ∃ (kq : Nat) (x16_19 : Bool) (x17_19 : Bool), v16 = .bool x16_19 ∧ v17 = .bool x17_19 ∧ Aside0 (keyeventlaw24_PoolCommon.j2 kq a2 a3 (wrap64 (1 + (wrap64 (Int.tmod a0 9)))) (Int.tmod (wrap64 (a1)) (wrap64 (1 + (wrap64 (Int.tmod a0 9))))) t107 x12_2 x13_2 x14_2 x15_2 x16_19 x17_19 = some r) ∧ Aside0 (kq ≤ k2) ∧ Aside0 (Below w.heap.size w wc))
                  case first =>
                    have H := HC20.out
                    clear HC20
                    by_cases c21 : (Go.bits .and .u16 (ji17) 1) = 1
                    · rw [if_pos c21] at H
                      have c21b0 : ((Go.bits .and .u16 (ji17) 1) == 1) = true := beq_iff_eq.mpr c21
                      have c21b1 : ((Go.bits .and .u16 (ji17) 1) != 1) = false := bne_eq_false_iff_eq.mpr c21
                      clear c21
                      (first | rw [c21b0] | (simp only [i64_w, i32_w]; rw [c21b0]) | skip)
                      by_cases c22 : (Go.bits .and .u16 (ji19) 1) = 1
                      · rw [if_pos c22] at H
                        have c22b0 : ((Go.bits .and .u16 (ji19) 1) == 1) = true := beq_iff_eq.mpr c22
                        have c22b1 : ((Go.bits .and .u16 (ji19) 1) != 1) = false := bne_eq_false_iff_eq.mpr c22
                        clear c22
                        have H' := Aside0.mk H
                        clear H
                        go_wp2
                        repeat (go_quiet (fail); try go_wp2)
                        go_meet
                        case rel => exact ⟨_, (decide (x12_2 < t107)), (decide (x13_2 < t107)), (by first | rfl | (simp; done) | (simp [*]; done)), (by first | rfl | (simp; done) | (simp [*]; done)), H', ⟨by have := HJ6.out; have := HK2.out; first | omega | exact Nat.le_refl _⟩, ⟨by repeat (first | (with_reducible first | exact HB.out | apply below_alloc | apply pw_below_drewN | apply below_drew1) | exact HB.out)⟩⟩
                      · rw [if_neg c22] at H
                        have c22b0 : ((Go.bits .and .u16 (ji19) 1) == 1) = false := beq_eq_false_iff_ne.mpr c22
                        have c22b1 : ((Go.bits .and .u16 (ji19) 1) != 1) = true := bne_iff_ne.mpr c22
                        by_cases c23 : (wrap64 ((wrap64 (1 + (wrap64 (Int.tmod a0 9)))) - x15_2)) ≤ (wrap64 (t107 - x13_2))
                        · rw [if_pos c23] at H
                          have c23b0 : decide ((wrap64 ((wrap64 (1 + (wrap64 (Int.tmod a0 9)))) - x15_2)) ≤ (wrap64 (t107 - x13_2))) = true := decide_eq_true c23
                          clear c23
                          have H' := Aside0.mk H
                          clear H
                          go_wp2
                          repeat (go_quiet (fail); try go_wp2)
                          go_meet
                          case rel => exact ⟨_, (decide (x12_2 < t107)), (decide (x13_2 < t107)), (by first | rfl | (simp; done) | (simp [*]; done)), (by first | rfl | (simp; done) | (simp [*]; done)), H', ⟨by have := HJ6.out; have := HK2.out; first | omega | exact Nat.le_refl _⟩, ⟨by repeat (first | (with_reducible first | exact HB.out | apply below_alloc | apply pw_below_drewN | apply below_drew1) | exact HB.out)⟩⟩
                        · rw [if_neg c23] at H
                          have c23b0 : decide ((wrap64 ((wrap64 (1 + (wrap64 (Int.tmod a0 9)))) - x15_2)) ≤ (wrap64 (t107 - x13_2))) = false := decide_eq_false c23
                          clear c23
                          have H' := Aside0.mk H
                          clear H
                          go_wp2
                          repeat (go_quiet (fail); try go_wp2)
                          go_meet
                          case rel => exact ⟨_, (decide (x12_2 < t107)), (false), (by first | rfl | (simp; done) | (simp [*]; done)), (by first | rfl | (simp; done) | (simp [*]; done)), H', ⟨by have := HJ6.out; have := HK2.out; first | omega | exact Nat.le_refl _⟩, ⟨by repeat (first | (with_reducible first | exact HB.out | apply below_alloc | apply pw_below_drewN | apply below_drew1) | exact HB.out)⟩⟩
                    · rw [if_neg c21] at H
                      have c21b0 : ((Go.bits .and .u16 (ji17) 1) == 1) = false := beq_eq_false_iff_ne.mpr c21
                      have c21b1 : ((Go.bits .and .u16 (ji17) 1) != 1) = true := bne_iff_ne.mpr c21
                      (first | rw [c21b0] | (simp only [i64_w, i32_w]; rw [c21b0]) | skip)
                      by_cases c24 : (wrap64 ((wrap64 (1 + (wrap64 (Int.tmod a0 9)))) - x15_2)) ≤ (wrap64 (t107 - x12_2))
                      · rw [if_pos c24] at H
                        have c24b0 : decide ((wrap64 ((wrap64 (1 + (wrap64 (Int.tmod a0 9)))) - x15_2)) ≤ (wrap64 (t107 - x12_2))) = true := decide_eq_true c24
                        clear c24
                        by_cases c25 : (Go.bits .and .u16 (ji19) 1) = 1
                        · rw [if_pos c25] at H
                          have c25b0 : ((Go.bits .and .u16 (ji19) 1) == 1) = true := beq_iff_eq.mpr c25
                          have c25b1 : ((Go.bits .and .u16 (ji19) 1) != 1) = false := bne_eq_false_iff_eq.mpr c25
                          clear c25
                          have H' := Aside0.mk H
                          clear H
                          go_wp2
                          repeat (go_quiet (fail); try go_wp2)
                          go_meet
                          case rel => exact ⟨_, (decide (x12_2 < t107)), (decide (x13_2 < t107)), (by first | rfl | (simp; done) | (simp [*]; done)), (by first | rfl | (simp; done) | (simp [*]; done)), H', ⟨by have := HJ6.out; have := HK2.out; first | omega | exact Nat.le_refl _⟩, ⟨by repeat (first | (with_reducible first | exact HB.out | apply below_alloc | apply pw_below_drewN | apply below_drew1) | exact HB.out)⟩⟩
                        · rw [if_neg c25] at H
                          have c25b0 : ((Go.bits .and .u16 (ji19) 1) == 1) = false := beq_eq_false_iff_ne.mpr c25
                          have c25b1 : ((Go.bits .and .u16 (ji19) 1) != 1) = true := bne_iff_ne.mpr c25
                          by_cases c26 : (wrap64 ((wrap64 (1 + (wrap64 (Int.tmod a0 9)))) - x15_2)) ≤ (wrap64 (t107 - x13_2))
                          · rw [if_pos c26] at H
                            have c26b0 : decide ((wrap64 ((wrap64 (1 + (wrap64 (Int.tmod a0 9)))) - x15_2)) ≤ (wrap64 (t107 - x13_2))) = true := decide_eq_true c26
                            clear c26
                            have H' := Aside0.mk H
                            clear H
                            go_wp2
                            repeat (go_quiet (fail); try go_wp2)
                            go_meet
                            case rel => exact ⟨_, (decide (x12_2 < t107)), (decide (x13_2 < t107)), (by first | rfl | (simp; done) | (simp [*]; done)), (by first | rfl | (simp; done) | (simp [*]; done)), H', ⟨by have := HJ6.out; have := HK2.out; first | omega | exact Nat.le_refl _⟩, ⟨by repeat (first | (with_reducible first | exact HB.out | apply below_alloc | apply pw_below_drewN | apply below_drew1) | exact HB.out)⟩⟩
                          · rw [if_neg c26] at H
                            have c26b0 : decide ((wrap64 ((wrap64 (1 + (wrap64 (Int.tmod a0 9)))) - x15_2)) ≤ (wrap64 (t107 - x13_2))) = false := decide_eq_false c26
                            clear c26
                            have H' := Aside0.mk H
                            clear H
                            go_wp2
                            repeat (go_quiet (fail); try go_wp2)
                            go_meet
                            case rel => exact ⟨_, (decide (x12_2 < t107)), (false), (by first | rfl | (simp; done) | (simp [*]; done)), (by first | rfl | (simp; done) | (simp [*]; done)), H', ⟨by have := HJ6.out; have := HK2.out; first | omega | exact Nat.le_refl _⟩, ⟨by repeat (first | (with_reducible first | exact HB.out | apply below_alloc | apply pw_below_drewN | apply below_drew1) | exact HB.out)⟩⟩
                      · rw [if_neg c24] at H
                        have c24b0 : decide ((wrap64 ((wrap64 (1 + (wrap64 (Int.tmod a0 9)))) - x15_2)) ≤ (wrap64 (t107 - x12_2))) = false := decide_eq_false c24
                        clear c24
                        by_cases c27 : (Go.bits .and .u16 (ji19) 1) = 1
                        · rw [if_pos c27] at H
                          have c27b0 : ((Go.bits .and .u16 (ji19) 1) == 1) = true := beq_iff_eq.mpr c27
                          have c27b1 : ((Go.bits .and .u16 (ji19) 1) != 1) = false := bne_eq_false_iff_eq.mpr c27
                          clear c27
                          have H' := Aside0.mk H
                          clear H
                          go_wp2
                          repeat (go_quiet (fail); try go_wp2)
                          go_meet
                          case rel => exact ⟨_, (false), (decide (x13_2 < t107)), (by first | rfl | (simp; done) | (simp [*]; done)), (by first | rfl | (simp; done) | (simp [*]; done)), H', ⟨by have := HJ6.out; have := HK2.out; first | omega | exact Nat.le_refl _⟩, ⟨by repeat (first | (with_reducible first | exact HB.out | apply below_alloc | apply pw_below_drewN | apply below_drew1) | exact HB.out)⟩⟩
                        · rw [if_neg c27] at H
                          have c27b0 : ((Go.bits .and .u16 (ji19) 1) == 1) = false := beq_eq_false_iff_ne.mpr c27
                          have c27b1 : ((Go.bits .and .u16 (ji19) 1) != 1) = true := bne_iff_ne.mpr c27
                          by_cases c28 : (wrap64 ((wrap64 (1 + (wrap64 (Int.tmod a0 9)))) - x15_2)) ≤ (wrap64 (t107 - x13_2))
                          · rw [if_pos c28] at H
                            have c28b0 : decide ((wrap64 ((wrap64 (1 + (wrap64 (Int.tmod a0 9)))) - x15_2)) ≤ (wrap64 (t107 - x13_2))) = true := decide_eq_true c28
                            clear c28
                            have H' := Aside0.mk H
                            clear H
                            go_wp2
                            repeat (go_quiet (fail); try go_wp2)
                            go_meet
                            case rel => exact ⟨_, (false), (decide (x13_2 < t107)), (by first | rfl | (simp; done) | (simp [*]; done)), (by first | rfl | (simp; done) | (simp [*]; done)), H', ⟨by have := HJ6.out; have := HK2.out; first | omega | exact Nat.le_refl _⟩, ⟨by repeat (first | (with_reducible first | exact HB.out | apply below_alloc | apply pw_below_drewN | apply below_drew1) | exact HB.out)⟩⟩
                          · rw [if_neg c28] at H
                            have c28b0 : decide ((wrap64 ((wrap64 (1 + (wrap64 (Int.tmod a0 9)))) - x15_2)) ≤ (wrap64 (t107 - x13_2))) = false := decide_eq_false c28
                            clear c28
                            have H' := Aside0.mk H
                            clear H
                            go_wp2
                            repeat (go_quiet (fail); try go_wp2)
                            go_meet
                            case rel => exact ⟨_, (false), (false), (by first | rfl | (simp; done) | (simp [*]; done)), (by first | rfl | (simp; done) | (simp [*]; done)), H', ⟨by have := HJ6.out; have := HK2.out; first | omega | exact Nat.le_refl _⟩, ⟨by repeat (first | (with_reducible first | exact HB.out | apply below_alloc | apply pw_below_drewN | apply below_drew1) | exact HB.out)⟩⟩
                  case rest =>
                    clear HC20
                    try clear c1
                    try clear c2
                    try clear p2
                    try clear c3
                    try clear c5
                    try clear c5b0
                    try clear c5b1
                    try clear p6
                    try clear c8
                    try clear c8b0
                    try clear c11
                    try clear c12
                    try clear c12b0
                    try clear c15
                    try clear c15b0
                    try clear c16
                    try clear c16b0
                    try clear c16b1
                    try clear c18
                    try clear c18b0
                    try clear c21
                    try clear c21b0
                    try clear c21b1
                    try clear c22
                    try clear c22b0
                    try clear c22b1
                    try clear c23
                    try clear c23b0
                    try clear c24
                    try clear c24b0
                    try clear c25
                    try clear c25b0
                    try clear c25b1
                    try clear c26
                    try clear c26b0
                    try clear c27
                    try clear c27b0
                    try clear c27b1
                    try clear c28
                    try clear c28b0
                    try clear p2
                    try clear p6
                    obtain ⟨kq, x16_19, x17_19, rfl, rfl, HA, HJ19, HB⟩ := hcut
                    cases kq with
                    | zero => exact absurd HA.out (by simp [keyeventlaw24_PoolCommon.j2])
                    | succ kj19 =>
                      have H := HA.out
                      clear HA
                      simp only [keyeventlaw24_PoolCommon.j2] at H
                      have HC29 := Aside0.mk H
                      clear H
                      go_upto_if 90 with (fail)
                      repeat (go_quiet (fail); go_upto_if 90 with (fail))
                      go_cut [12] (fun v12 wc => ∃ (kq : Nat) (x12_28 : Int), v12 = .int .i64 x12_28 ∧ Aside0 (keyeventlaw24_PoolCommon.j3 kq a2 a3 (wrap64 (1 + (wrap64 (Int.tmod a0 9)))) (Int.tmod (wrap64 (a1)) (wrap64 (1 + (wrap64 (Int.tmod a0 9))))) t107 x12_28 x13_2 x14_2 x15_2 x16_19 x17_19 = some r) ∧ Aside0 (kq ≤ kj19) ∧ Aside0 (Below w.heap.size w wc))
                      case first =>
                        have H := HC29.out
                        clear HC29
                        by_cases c30 : x16_19 = true
                        · subst c30
                          have H1 : (keyeventlaw24_PoolCommon.j3 kj19 a2 a3 (wrap64 (1 + (wrap64 (Int.tmod a0 9)))) (Int.tmod (wrap64 (a1)) (wrap64 (1 + (wrap64 (Int.tmod a0 9))))) t107 (wrap64 (x12_2 + 1)) x13_2 x14_2 x15_2 true x17_19) = some r := by rw [if_pos rfl] at H; exact H
                          clear H
                          have H := H1
                          clear H1
                          have H' := Aside0.mk H
                          clear H
                          go_wp2
                          repeat (go_quiet (fail); try go_wp2)
                          go_meet
                          case rel => exact ⟨_, (wrap64 (x12_2 + 1)), (by first | rfl | (simp; done) | (simp [*]; done)), H', ⟨by have := HJ6.out; have := HK2.out; have := HJ19.out; first | omega | exact Nat.le_refl _⟩, ⟨by repeat (first | (with_reducible first | exact HB.out | apply below_alloc | apply pw_below_drewN | apply below_drew1) | exact HB.out)⟩⟩
                        · replace c30 := Bool.eq_false_iff.mpr c30
                          subst c30
                          have H1 : (keyeventlaw24_PoolCommon.j3 kj19 a2 a3 (wrap64 (1 + (wrap64 (Int.tmod a0 9)))) (Int.tmod (wrap64 (a1)) (wrap64 (1 + (wrap64 (Int.tmod a0 9))))) t107 x12_2 x13_2 x14_2 x15_2 false x17_19) = some r := by rw [if_neg (show ¬ (false = true) by decide)] at H; exact H
                          clear H
                          have H := H1
                          clear H1
                          have H' := Aside0.mk H
                          clear H
                          go_wp2
                          repeat (go_quiet (fail); try go_wp2)
                          go_meet
                          case rel => exact ⟨_, (x12_2), (by first | rfl | (simp; done) | (simp [*]; done)), H', ⟨by have := HJ6.out; have := HK2.out; have := HJ19.out; first | omega | exact Nat.le_refl _⟩, ⟨by repeat (first | (with_reducible first | exact HB.out | apply below_alloc | apply pw_below_drewN | apply below_drew1) | exact HB.out)⟩⟩
                      case rest =>
                        clear HC29
                        try clear c1
                        try clear c2
                        try clear p2
                        try clear c3
                        try clear c5
                        try clear c5b0
                        try clear c5b1
                        try clear p6
                        try clear c8
                        try clear c8b0
                        try clear c11
                        try clear c12
                        try clear c12b0
                        try clear c15
                        try clear c15b0
                        try clear c16
                        try clear c16b0
                        try clear c16b1
                        try clear c18
                        try clear c18b0
                        try clear c21
                        try clear c21b0
                        try clear c21b1
                        try clear c22
                        try clear c22b0
                        try clear c22b1
                        try clear c23
                        try clear c23b0
                        try clear c24
                        try clear c24b0
                        try clear c25
                        try clear c25b0
                        try clear c25b1
                        try clear c26
                        try clear c26b0
                        try clear c27
                        try clear c27b0
                        try clear c27b1
                        try clear c28
                        try clear c28b0
                        try clear c30
                        try clear p2
                        try clear p6
                        obtain ⟨kq, x12_28, rfl, HA, HJ28, HB⟩ := hcut
                        cases kq with
                        | zero => exact absurd HA.out (by simp [keyeventlaw24_PoolCommon.j3])
                        | succ kj28 =>
                          have H := HA.out
                          clear HA
                          simp only [keyeventlaw24_PoolCommon.j3] at H
                          by_cases c31 : x17_19 = true
                          · subst c31
                            have H1 : (if x16_19 = true then (keyeventlaw24_PoolCommon.l0 kj28 a2 a3 (wrap64 (1 + (wrap64 (Int.tmod a0 9)))) (Int.tmod (wrap64 (a1)) (wrap64 (1 + (wrap64 (Int.tmod a0 9))))) t107 x12_28 (wrap64 (x13_2 + 1)) (wrap64 (x14_2 + 1)) (wrap64 (x15_2 + 1))) else (keyeventlaw24_PoolCommon.l0 kj28 a2 a3 (wrap64 (1 + (wrap64 (Int.tmod a0 9)))) (Int.tmod (wrap64 (a1)) (wrap64 (1 + (wrap64 (Int.tmod a0 9))))) t107 x12_28 (wrap64 (x13_2 + 1)) x14_2 (wrap64 (x15_2 + 1)))) = some r := by rw [if_pos rfl] at H; exact H
                            clear H
                            have H := H1
                            clear H1
                            by_cases c32 : x16_19 = true
                            · subst c32
                              have H1 : (keyeventlaw24_PoolCommon.l0 kj28 a2 a3 (wrap64 (1 + (wrap64 (Int.tmod a0 9)))) (Int.tmod (wrap64 (a1)) (wrap64 (1 + (wrap64 (Int.tmod a0 9))))) t107 x12_28 (wrap64 (x13_2 + 1)) (wrap64 (x14_2 + 1)) (wrap64 (x15_2 + 1))) = some r := by rw [if_pos rfl] at H; exact H
                              clear H
                              have H := H1
                              clear H1
                              have H' := Aside0.mk H
                              clear H
                              go_wp2
                              repeat (go_quiet (fail); try go_wp2)
                              go_roundg kj28
                              case measure => have := HJ6.out; have := HK2.out; have := HJ19.out; have := HJ28.out; omega
                              case rel => exact ⟨(x12_28), (wrap64 (x13_2 + 1)), (wrap64 (x14_2 + 1)), (wrap64 (x15_2 + 1)), (by first | rfl | (simp; done) | (simp [*]; done)), (by first | rfl | (simp; done) | (simp [*]; done)), (by first | rfl | (simp; done) | (simp [*]; done)), (by first | rfl | (simp; done) | (simp [*]; done)), H', ⟨by have := HJ6.out; have := HK2.out; have := HJ19.out; have := HJ28.out; omega⟩, ⟨by repeat (first | (with_reducible first | exact HB.out | apply below_alloc | apply pw_below_drewN | apply below_drew1) | exact HB.out)⟩⟩
                            · replace c32 := Bool.eq_false_iff.mpr c32
                              subst c32
                              have H1 : (keyeventlaw24_PoolCommon.l0 kj28 a2 a3 (wrap64 (1 + (wrap64 (Int.tmod a0 9)))) (Int.tmod (wrap64 (a1)) (wrap64 (1 + (wrap64 (Int.tmod a0 9))))) t107 x12_28 (wrap64 (x13_2 + 1)) x14_2 (wrap64 (x15_2 + 1))) = some r := by rw [if_neg (show ¬ (false = true) by decide)] at H; exact H
                              clear H
                              have H := H1
                              clear H1
                              have H' := Aside0.mk H
                              clear H
                              go_wp2
                              repeat (go_quiet (fail); try go_wp2)
                              go_roundg kj28
                              case measure => have := HJ6.out; have := HK2.out; have := HJ19.out; have := HJ28.out; omega
                              case rel => exact ⟨(x12_28), (wrap64 (x13_2 + 1)), (x14_2), (wrap64 (x15_2 + 1)), (by first | rfl | (simp; done) | (simp [*]; done)), (by first | rfl | (simp; done) | (simp [*]; done)), (by first | rfl | (simp; done) | (simp [*]; done)), (by first | rfl | (simp; done) | (simp [*]; done)), H', ⟨by have := HJ6.out; have := HK2.out; have := HJ19.out; have := HJ28.out; omega⟩, ⟨by repeat (first | (with_reducible first | exact HB.out | apply below_alloc | apply pw_below_drewN | apply below_drew1) | exact HB.out)⟩⟩
                          · replace c31 := Bool.eq_false_iff.mpr c31
                            subst c31
                            have H1 : (if x16_19 = true then (keyeventlaw24_PoolCommon.l0 kj28 a2 a3 (wrap64 (1 + (wrap64 (Int.tmod a0 9)))) (Int.tmod (wrap64 (a1)) (wrap64 (1 + (wrap64 (Int.tmod a0 9))))) t107 x12_28 x13_2 x14_2 (wrap64 (x15_2 + 1))) else (keyeventlaw24_PoolCommon.l0 kj28 a2 a3 (wrap64 (1 + (wrap64 (Int.tmod a0 9)))) (Int.tmod (wrap64 (a1)) (wrap64 (1 + (wrap64 (Int.tmod a0 9))))) t107 x12_28 x13_2 x14_2 (wrap64 (x15_2 + 1)))) = some r := by rw [if_neg (show ¬ (false = true) by decide)] at H; exact H
                            clear H
                            have H := H1
                            clear H1
                            by_cases c33 : x16_19 = true
                            · subst c33
                              have H1 : (keyeventlaw24_PoolCommon.l0 kj28 a2 a3 (wrap64 (1 + (wrap64 (Int.tmod a0 9)))) (Int.tmod (wrap64 (a1)) (wrap64 (1 + (wrap64 (Int.tmod a0 9))))) t107 x12_28 x13_2 x14_2 (wrap64 (x15_2 + 1))) = some r := by rw [if_pos rfl] at H; exact H
                              clear H
                              have H := H1
                              clear H1
                              have H' := Aside0.mk H
                              clear H
                              go_wp2
                              repeat (go_quiet (fail); try go_wp2)
                              go_roundg kj28
                              case measure => have := HJ6.out; have := HK2.out; have := HJ19.out; have := HJ28.out; omega
                              case rel => exact ⟨(x12_28), (x13_2), (x14_2), (wrap64 (x15_2 + 1)), (by first | rfl | (simp; done) | (simp [*]; done)), (by first | rfl | (simp; done) | (simp [*]; done)), (by first | rfl | (simp; done) | (simp [*]; done)), (by first | rfl | (simp; done) | (simp [*]; done)), H', ⟨by have := HJ6.out; have := HK2.out; have := HJ19.out; have := HJ28.out; omega⟩, ⟨by repeat (first | (with_reducible first | exact HB.out | apply below_alloc | apply pw_below_drewN | apply below_drew1) | exact HB.out)⟩⟩
                            · replace c33 := Bool.eq_false_iff.mpr c33
                              subst c33
                              have H1 : (keyeventlaw24_PoolCommon.l0 kj28 a2 a3 (wrap64 (1 + (wrap64 (Int.tmod a0 9)))) (Int.tmod (wrap64 (a1)) (wrap64 (1 + (wrap64 (Int.tmod a0 9))))) t107 x12_28 x13_2 x14_2 (wrap64 (x15_2 + 1))) = some r := by rw [if_neg (show ¬ (false = true) by decide)] at H; exact H
                              clear H
                              have H := H1
                              clear H1
                              have H' := Aside0.mk H
                              clear H
                              go_wp2
                              repeat (go_quiet (fail); try go_wp2)
                              go_roundg kj28
                              case measure => have := HJ6.out; have := HK2.out; have := HJ19.out; have := HJ28.out; omega
                              case rel => exact ⟨(x12_28), (x13_2), (x14_2), (wrap64 (x15_2 + 1)), (by first | rfl | (simp; done) | (simp [*]; done)), (by first | rfl | (simp; done) | (simp [*]; done)), (by first | rfl | (simp; done) | (simp [*]; done)), (by first | rfl | (simp; done) | (simp [*]; done)), H', ⟨by have := HJ6.out; have := HK2.out; have := HJ19.out; have := HJ28.out; omega⟩, ⟨by repeat (first | (with_reducible first | exact HB.out | apply below_alloc | apply pw_below_drewN | apply below_drew1) | exact HB.out)⟩⟩
                · rw [if_neg c16] at H
                  exact absurd H (by simp)
              · rw [if_neg c15] at H
                have c15b0 : decide (x15_2 < (wrap64 (1 + (wrap64 (Int.tmod a0 9))))) = false := decide_eq_false c15
                clear c15
                by_cases c34 : x12_2 = t107
                · rw [if_pos c34] at H
                  have c34b0 : (x12_2 == t107) = true := beq_iff_eq.mpr c34
                  have c34b1 : (x12_2 != t107) = false := bne_eq_false_iff_eq.mpr c34
                  clear c34
                  by_cases c35 : x13_2 = t107
                  · rw [if_pos c35] at H
                    have c35b0 : (x13_2 == t107) = true := beq_iff_eq.mpr c35
                    have c35b1 : (x13_2 != t107) = false := bne_eq_false_iff_eq.mpr c35
                    clear c35
                    by_cases c36 : x14_2 > (Int.tmod (wrap64 (a1)) (wrap64 (1 + (wrap64 (Int.tmod a0 9)))))
                    · rw [if_pos c36] at H
                      have c36b0 : decide ((Int.tmod (wrap64 (a1)) (wrap64 (1 + (wrap64 (Int.tmod a0 9))))) < x14_2) = true := decide_eq_true c36
                      clear c36
                      replace H := Option.bind_eq_some_iff.mp H
                      obtain ⟨t110, A370, H⟩ := H
                      replace H : (some t110) = some r := H
                      have A37 := Aside0.mk A370
                      clear A370
                      obtain rfl := Option.some.inj H
                      go_wp2_with (first | (go_at_call 8; (with_reducible refine (keyeventlaw24_awake.calls  t110 _ A37.out).mono ?_); rintro e w38 ⟨rfl, hb⟩; have n0_ := Aside0.mk (below_step (by repeat (first | (with_reducible first | exact HB.out | apply below_alloc | apply pw_below_drewN | apply below_drew1) | exact HB.out)) hb); clear HB; have HB := n0_; clear n0_; (try clear hb); (try clear hb2); (try clear hk); (try clear hi)))
                      repeat (go_quiet (first | (go_at_call 8; (with_reducible refine (keyeventlaw24_awake.calls  t110 _ A37.out).mono ?_); rintro e w38 ⟨rfl, hb⟩; have n0_ := Aside0.mk (below_step (by repeat (first | (with_reducible first | exact HB.out | apply below_alloc | apply pw_below_drewN | apply below_drew1) | exact HB.out)) hb); clear HB; have HB := n0_; clear n0_; (try clear hb); (try clear hb2); (try clear hk); (try clear hi))); try go_wp2_with (first | (go_at_call 8; (with_reducible refine (keyeventlaw24_awake.calls  t110 _ A37.out).mono ?_); rintro e w38 ⟨rfl, hb⟩; have n0_ := Aside0.mk (below_step (by repeat (first | (with_reducible first | exact HB.out | apply below_alloc | apply pw_below_drewN | apply below_drew1) | exact HB.out)) hb); clear HB; have HB := n0_; clear n0_; (try clear hb); (try clear hb2); (try clear hk); (try clear hi))))
                      go_ret
                      exact ⟨by first | rfl | (simp [errW_none, errW_some] <;> rfl) | (simp [*, errW_none, errW_some] <;> rfl), by repeat (first | (with_reducible first | exact HB.out | apply below_alloc | apply pw_below_drewN | apply below_drew1) | exact HB.out)⟩
                    · rw [if_neg c36] at H
                      have c36b0 : decide ((Int.tmod (wrap64 (a1)) (wrap64 (1 + (wrap64 (Int.tmod a0 9))))) < x14_2) = false := decide_eq_false c36
                      clear c36
                      obtain rfl := Option.some.inj H
                      go_wp2
                      repeat (go_quiet (fail); try go_wp2)
                      go_ret
                      exact ⟨by first | rfl | (simp [errW_none, errW_some] <;> rfl) | (simp [*, errW_none, errW_some] <;> rfl), by repeat (first | (with_reducible first | exact HB.out | apply below_alloc | apply pw_below_drewN | apply below_drew1) | exact HB.out)⟩
                  · rw [if_neg c35] at H
                    have c35b0 : (x13_2 == t107) = false := beq_eq_false_iff_ne.mpr c35
                    have c35b1 : (x13_2 != t107) = true := bne_iff_ne.mpr c35
                    obtain rfl := Option.some.inj H
                    go_wp2
                    repeat (go_quiet (fail); try go_wp2)
                    go_ret
                    exact ⟨by first | rfl | (simp [errW_none, errW_some] <;> rfl) | (simp [*, errW_none, errW_some] <;> rfl), by repeat (first | (with_reducible first | exact HB.out | apply below_alloc | apply pw_below_drewN | apply below_drew1) | exact HB.out)⟩
                · rw [if_neg c34] at H
                  have c34b0 : (x12_2 == t107) = false := beq_eq_false_iff_ne.mpr c34
                  have c34b1 : (x12_2 != t107) = true := bne_iff_ne.mpr c34
                  obtain rfl := Option.some.inj H
                  go_wp2
                  repeat (go_quiet (fail); try go_wp2)
                  go_ret
                  exact ⟨by first | rfl | (simp [errW_none, errW_some] <;> rfl) | (simp [*, errW_none, errW_some] <;> rfl), by repeat (first | (with_reducible first | exact HB.out | apply below_alloc | apply pw_below_drewN | apply below_drew1) | exact HB.out)⟩

/-- THE ONE PURE STATEMENT of keyeventlaw24_PoolCommon: yours. -/
def keyeventlaw24_PoolCommon.Pure : Prop := ∀ (a0 : Int) (a1 : Int) (a2 : Int) (a3 : Int), (Lit.int .u8 a0).wf = true → (Lit.int .u8 a1).wf = true → (Lit.int .u16 a2).wf = true → (Lit.int .u16 a3).wf = true → ∃ k, keyeventlaw24_PoolCommon.f k a0 a1 a2 a3 = some true
theorem keyeventlaw24_PoolCommon.walk (P : keyeventlaw24_PoolCommon.Pure) (a0 : Int) (a1 : Int) (a2 : Int) (a3 : Int) (w : World) (w0 : (Lit.int .u8 a0).wf = true) (w1 : (Lit.int .u8 a1).wf = true) (w2 : (Lit.int .u16 a2).wf = true) (w3 : (Lit.int .u16 a3).wf = true) :
    Calls Try.prog 3 #[.int .u8 a0, .int .u8 a1, .int .u16 a2, .int .u16 a3] w fun e w' => e = .returned (.bool true) ∧ Below w.heap.size w w' := by
  obtain ⟨k, h⟩ := P a0 a1 a2 a3 w0 w1 w2 w3
  refine (keyeventlaw24_PoolCommon.calls k a0 a1 a2 a3 true w h).mono ?_
  rintro e w' ⟨rfl, hd⟩
  exact ⟨rfl, hd⟩

end Go.Proofs.Ytphpamjilmdjmaa.PPoolCommon
