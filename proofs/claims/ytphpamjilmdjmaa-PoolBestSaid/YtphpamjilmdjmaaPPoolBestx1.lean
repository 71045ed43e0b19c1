-- PRINTED BY print.sh 35421559b90ae4d0a3588c463048766b98c2df88dd9212a6774a882060cdf62d: not written by this session
import Derived.Test.YtphpamjilmdjmaaPPoolBestx0
namespace Go.Proofs.Ytphpamjilmdjmaa.PPoolBest
open Go.RowKit Go.Proofs.YtphpamjilmdjmaaW.PrintWords Go.Proofs.YtphpamjilmdjmaaW.PrintLast Go.Proofs.YtphpamjilmdjmaaW.PrintMore
attribute [local go_sem] max2_int min2_int max_two min_two max_three min_three max_four min_four   -- for this text's walks alone
set_option linter.unusedVariables false
set_option linter.unusedSimpArgs false

/-! ### keyeventref16_Majority: function 6 -/
def keyeventref16_Majority.f (a0 : Int) (a1 : Int) : Option (Int) := some (wrap64 ((wrap64 (Int.tdiv (wrap64 (a0 + a1)) 2)) + 1))
set_option maxHeartbeats 8000000 in
set_option maxRecDepth 100000 in
theorem keyeventref16_Majority.calls (a0 : Int) (a1 : Int) (r : Int) (w : World) (h : keyeventref16_Majority.f a0 a1 = some r) :
    Calls Try.prog 6 #[.int .i64 a0, .int .i64 a1] w fun e w' => e = .returned (.int .i64 r) ∧ Drawn0 w w' := by
  have H : (some (wrap64 ((wrap64 (Int.tdiv (wrap64 (a0 + a1)) 2)) + 1))) = some r := h
  clear h
  obtain rfl := Option.some.inj H
  go_enter Try.func6, Try.ntmps6
  go_wp2
  go_ret
  exact ⟨by first | rfl | (simp; done) | (simp [*]; done), by repeat (first | exact Drawn0.refl _ | apply Drawn0.step)⟩

/-! ### pool_Overlap: function 12 -/
def pool_Overlap.f (a0 : Int) (a1 : Int) (a2 : Int) : Option (Int) := some (mx (wrap64 ((wrap64 (a1 + a2)) - a0)) 0)
set_option maxHeartbeats 8000000 in
set_option maxRecDepth 100000 in
theorem pool_Overlap.calls (a0 : Int) (a1 : Int) (a2 : Int) (r : Int) (w : World) (h : pool_Overlap.f a0 a1 a2 = some r) :
    Calls Try.prog 12 #[.int .i64 a0, .int .i64 a1, .int .i64 a2] w fun e w' => e = .returned (.int .i64 r) ∧ Below w.heap.size w w' := by
  have HB := Aside0.mk (Below.refl w.heap.size w)
  have H : (some (mx (wrap64 ((wrap64 (a1 + a2)) - a0)) 0)) = some r := h
  clear h
  obtain ⟨ji4, hji4⟩ : ∃ j_ : Int, (mx (wrap64 ((wrap64 (a1 + a2)) - a0)) 0) = j_ := ⟨_, rfl⟩
  replace H : (some ji4) = some r := by first | (rw [hji4] at H; exact H) | (simp only [hji4] at H ⊢; exact H)
  (try (have hji4l : 0 ≤ ji4 := by (rw [← hji4]; unfold mx; (repeat' split) <;> omega)))
  (try (have hji4m : 0 ≤ ji4 := by omega))
  have hji4_ : (if (wrap64 ((wrap64 (a1 + a2)) - a0)) < 0 then 0 else (wrap64 ((wrap64 (a1 + a2)) - a0))) = ji4 := hji4
  obtain rfl := Option.some.inj H
  go_enter Try.func12, Try.ntmps12
  go_wp2
  go_ret
  exact ⟨by first | rfl | (simp [errW_none, errW_some] <;> rfl) | (simp only [← hji4]; first | rfl | (simp [errW_none, errW_some] <;> rfl)) | (simp [*, errW_none, errW_some] <;> rfl), by repeat (first | (with_reducible first | exact HB.out | apply below_alloc | apply pw_below_drewN | apply below_drew1) | exact HB.out)⟩

/-! ### pool_Safe: function 7 -/
def pool_Safe.f (a0 : Int) (a1 : Int) (a2 : Int) : Option (Bool) := if a2 ≥ 0 then ((pool_Overlap.f a0 a1 a1).bind fun t101 => (some (decide (t101 > a2)))) else (some false)
set_option maxHeartbeats 8000000 in
set_option maxRecDepth 100000 in
theorem pool_Safe.calls (a0 : Int) (a1 : Int) (a2 : Int) (r : Bool) (w : World) (h : pool_Safe.f a0 a1 a2 = some r) :
    Calls Try.prog 7 #[.int .i64 a0, .int .i64 a1, .int .i64 a2] w fun e w' => e = .returned (.bool r) ∧ Below w.heap.size w w' := by
  have HB := Aside0.mk (Below.refl w.heap.size w)
  have H : (if a2 ≥ 0 then ((pool_Overlap.f a0 a1 a1).bind fun t101 => (some (decide (t101 > a2)))) else (some false)) = some r := h
  clear h
  by_cases c4 : a2 ≥ 0
  · rw [if_pos c4] at H
    have c4b0 : decide (0 ≤ a2) = true := decide_eq_true c4
    clear c4
    replace H := Option.bind_eq_some_iff.mp H
    obtain ⟨t101, A50, H⟩ := H
    replace H : (some (decide (t101 > a2))) = some r := H
    have A5 := Aside0.mk A50
    clear A50
    obtain rfl := Option.some.inj H
    go_enter Try.func7, Try.ntmps7
    go_wp2_with (first | (go_at_call 12; (with_reducible refine (pool_Overlap.calls a0 a1 a1 t101 _ A5.out).mono ?_); rintro e w6 ⟨rfl, hb⟩; have n0_ := Aside0.mk (below_step (by repeat (first | (with_reducible first | exact HB.out | apply below_alloc | apply pw_below_drewN | apply below_drew1) | exact HB.out)) hb); clear HB; have HB := n0_; clear n0_; (try clear hb); (try clear hb2); (try clear hk); (try clear hi)))
    go_ret
    exact ⟨by first | rfl | (simp [errW_none, errW_some] <;> rfl) | (simp [*, errW_none, errW_some] <;> rfl), by repeat (first | (with_reducible first | exact HB.out | apply below_alloc | apply pw_below_drewN | apply below_drew1) | exact HB.out)⟩
  · rw [if_neg c4] at H
    have c4b0 : decide (0 ≤ a2) = false := decide_eq_false c4
    clear c4
    obtain rfl := Option.some.inj H
    go_enter Try.func7, Try.ntmps7
    go_wp2
    go_ret
    exact ⟨by first | rfl | (simp [errW_none, errW_some] <;> rfl) | (simp [*, errW_none, errW_some] <;> rfl), by repeat (first | (with_reducible first | exact HB.out | apply below_alloc | apply pw_below_drewN | apply below_drew1) | exact HB.out)⟩

/-! ### pool_Best: function 10 -/
def pool_Best.f (a0 : Int) : Option (Int × Int) := if a0 < 1 then (some (0, 0)) else (some (wrap64 (Int.tdiv (wrap64 (a0 - 1)) 3), wrap64 ((wrap64 (Int.tdiv (wrap64 (a0 + (wrap64 (Int.tdiv (wrap64 (a0 - 1)) 3)))) 2)) + 1)))
set_option maxHeartbeats 8000000 in
set_option maxRecDepth 100000 in
theorem pool_Best.calls (a0 : Int) (r1 : Int) (r2 : Int) (w : World) (h : pool_Best.f a0 = some (r1, r2)) :
    Calls Try.prog 10 #[.int .i64 a0] w fun e w' => e = .returned (.tuple #[.int .i64 r1, .int .i64 r2]) ∧ Drawn0 w w' := by
  have H : (if a0 < 1 then (some (0, 0)) else (some (wrap64 (Int.tdiv (wrap64 (a0 - 1)) 3), wrap64 ((wrap64 (Int.tdiv (wrap64 (a0 + (wrap64 (Int.tdiv (wrap64 (a0 - 1)) 3)))) 2)) + 1)))) = some (r1, r2) := h
  clear h
  by_cases c2 : a0 < 1
  · rw [if_pos c2] at H
    have c2b0 : decide (a0 < 1) = true := decide_eq_true c2
    clear c2
    simp only [Option.some.injEq, Prod.mk.injEq] at H
    obtain ⟨rfl, rfl⟩ := H
    go_enter Try.func10, Try.ntmps10
    go_wp2
    go_ret2
    exact ⟨by first | rfl | (simp; done) | (simp [*]; done), by repeat (first | exact Drawn0.refl _ | apply Drawn0.step)⟩
  · rw [if_neg c2] at H
    have c2b0 : decide (a0 < 1) = false := decide_eq_false c2
    clear c2
    simp only [Option.some.injEq, Prod.mk.injEq] at H
    obtain ⟨rfl, rfl⟩ := H
    go_enter Try.func10, Try.ntmps10
    go_wp2
    go_ret2
    exact ⟨by first | rfl | (simp; done) | (simp [*]; done), by repeat (first | exact Drawn0.refl _ | apply Drawn0.step)⟩

/-! ### keyeventlaw24_awake: function 8 -/
def keyeventlaw24_awake.f  : Option (Bool) := (pool_Best.f 4).bind fun bt102 => (if bt102.1 = 1 then (if bt102.2 = 3 then ((pool_Safe.f 4 3 1).bind fun t104 => (if t104 = true then ((pool_Safe.f 4 2 1).bind fun t105 => (if t105 = true then (some false) else ((pool_Overlap.f 5 3 4).bind fun t106 => (some (t106 == 2))))) else (some false))) else (some false)) else (some false))
set_option maxHeartbeats 8000000 in
set_option maxRecDepth 100000 in
theorem keyeventlaw24_awake.calls  (r : Bool) (w : World) (h : keyeventlaw24_awake.f  = some r) :
    Calls Try.prog 8 #[] w fun e w' => e = .returned (.bool r) ∧ Below w.heap.size w w' := by
  have HB := Aside0.mk (Below.refl w.heap.size w)
  have H : ((pool_Best.f 4).bind fun bt102 => (if bt102.1 = 1 then (if bt102.2 = 3 then ((pool_Safe.f 4 3 1).bind fun t104 => (if t104 = true then ((pool_Safe.f 4 2 1).bind fun t105 => (if t105 = true then (some false) else ((pool_Overlap.f 5 3 4).bind fun t106 => (some (t106 == 2))))) else (some false))) else (some false)) else (some false))) = some r := h
  clear h
  replace H := Option.bind_eq_some_iff.mp H
  obtain ⟨⟨t102, t103⟩, A10, H⟩ := H
  replace H : (if t102 = 1 then (if t103 = 3 then ((pool_Safe.f 4 3 1).bind fun t104 => (if t104 = true then ((pool_Safe.f 4 2 1).bind fun t105 => (if t105 = true then (some false) else ((pool_Overlap.f 5 3 4).bind fun t106 => (some (t106 == 2))))) else (some false))) else (some false)) else (some false)) = some r := H
  have A1 := Aside0.mk A10
  clear A10
  by_cases c2 : t102 = 1
  · rw [if_pos c2] at H
    have c2b0 : (t102 == 1) = true := beq_iff_eq.mpr c2
    have c2b1 : (t102 != 1) = false := bne_eq_false_iff_eq.mpr c2
    clear c2
    by_cases c3 : t103 = 3
    · rw [if_pos c3] at H
      have c3b0 : (t103 == 3) = true := beq_iff_eq.mpr c3
      have c3b1 : (t103 != 3) = false := bne_eq_false_iff_eq.mpr c3
      clear c3
      replace H := Option.bind_eq_some_iff.mp H
      obtain ⟨t104, A40, H⟩ := H
      replace H : (if t104 = true then ((pool_Safe.f 4 2 1).bind fun t105 => (if t105 = true then (some false) else ((pool_Overlap.f 5 3 4).bind fun t106 => (some (t106 == 2))))) else (some false)) = some r := H
      have A4 := Aside0.mk A40
      clear A40
      by_cases c5 : t104 = true
      · subst c5
        have H1 : ((pool_Safe.f 4 2 1).bind fun t105 => (if t105 = true then (some false) else ((pool_Overlap.f 5 3 4).bind fun t106 => (some (t106 == 2))))) = some r := by rw [if_pos rfl] at H; exact H
        clear H
        have H := H1
        clear H1
        replace H := Option.bind_eq_some_iff.mp H
        obtain ⟨t105, A60, H⟩ := H
        replace H : (if t105 = true then (some false) else ((pool_Overlap.f 5 3 4).bind fun t106 => (some (t106 == 2)))) = some r := H
        have A6 := Aside0.mk A60
        clear A60
        by_cases c7 : t105 = true
        · subst c7
          have H1 : (some false) = some r := by rw [if_pos rfl] at H; exact H
          clear H
          have H := H1
          clear H1
          obtain rfl := Option.some.inj H
          go_enter Try.func8, Try.ntmps8
          go_wp2_with (first | ((with_reducible refine gate_callee (f := 10) rfl ?_); refine goesL_ (some 4) rfl rfl Try.func10 (by kernel_rfl) rfl #[.int .i64 4] rfl (by (try simp only [List.map_toArray, List.map_cons, List.map_nil]); first | done | rfl | (simp only [List.length_drop, List.length_take]; rfl)) ?_; (with_reducible refine (pool_Best.calls 4 t102 t103 _ A1.out).mono ?_); rintro e w' ⟨rfl, ⟨nd, rfl⟩⟩; refine ⟨_, rfl, ?_⟩) | (go_at_call 7; (with_reducible refine (pool_Safe.calls 4 3 1 true _ A4.out).mono ?_); rintro e w8 ⟨rfl, hb⟩; have n0_ := Aside0.mk (below_step (by repeat (first | (with_reducible first | exact HB.out | apply below_alloc | apply pw_below_drewN | apply below_drew1) | exact HB.out)) hb); clear HB; have HB := n0_; clear n0_; (try clear hb); (try clear hb2); (try clear hk); (try clear hi)) | (go_at_call 7; (with_reducible refine (pool_Safe.calls 4 2 1 true _ A6.out).mono ?_); rintro e w9 ⟨rfl, hb⟩; have n0_ := Aside0.mk (below_step (by repeat (first | (with_reducible first | exact HB.out | apply below_alloc | apply pw_below_drewN | apply below_drew1) | exact HB.out)) hb); clear HB; have HB := n0_; clear n0_; (try clear hb); (try clear hb2); (try clear hk); (try clear hi)))
          go_ret
          exact ⟨by first | rfl | (simp [errW_none, errW_some] <;> rfl) | (simp [*, errW_none, errW_some] <;> rfl), by repeat (first | (with_reducible first | exact HB.out | apply below_alloc | apply pw_below_drewN | apply below_drew1) | exact HB.out)⟩
        · replace c7 := Bool.eq_false_iff.mpr c7
          subst c7
          have H1 : ((pool_Overlap.f 5 3 4).bind fun t106 => (some (t106 == 2))) = some r := by rw [if_neg (show ¬ (false = true) by decide)] at H; exact H
          clear H
          have H := H1
          clear H1
          replace H := Option.bind_eq_some_iff.mp H
          obtain ⟨t106, A100, H⟩ := H
          replace H : (some (t106 == 2)) = some r := H
          have A10 := Aside0.mk A100
          clear A100
          obtain rfl := Option.some.inj H
          go_enter Try.func8, Try.ntmps8
          go_wp2_with (first | ((with_reducible refine gate_callee (f := 10) rfl ?_); refine goesL_ (some 4) rfl rfl Try.func10 (by kernel_rfl) rfl #[.int .i64 4] rfl (by (try simp only [List.map_toArray, List.map_cons, List.map_nil]); first | done | rfl | (simp only [List.length_drop, List.length_take]; rfl)) ?_; (with_reducible refine (pool_Best.calls 4 t102 t103 _ A1.out).mono ?_); rintro e w' ⟨rfl, ⟨nd, rfl⟩⟩; refine ⟨_, rfl, ?_⟩) | (go_at_call 7; (with_reducible refine (pool_Safe.calls 4 3 1 true _ A4.out).mono ?_); rintro e w11 ⟨rfl, hb⟩; have n0_ := Aside0.mk (below_step (by repeat (first | (with_reducible first | exact HB.out | apply below_alloc | apply pw_below_drewN | apply below_drew1) | exact HB.out)) hb); clear HB; have HB := n0_; clear n0_; (try clear hb); (try clear hb2); (try clear hk); (try clear hi)) | (go_at_call 7; (with_reducible refine (pool_Safe.calls 4 2 1 false _ A6.out).mono ?_); rintro e w12 ⟨rfl, hb⟩; have n0_ := Aside0.mk (below_step (by repeat (first | (with_reducible first | exact HB.out | apply below_alloc | apply pw_below_drewN | apply below_drew1) | exact HB.out)) hb); clear HB; have HB := n0_; clear n0_; (try clear hb); (try clear hb2); (try clear hk); (try clear hi)) | (go_at_call 12; (with_reducible refine (pool_Overlap.calls 5 3 4 t106 _ A10.out).mono ?_); rintro e w13 ⟨rfl, hb⟩; have n0_ := Aside0.mk (below_step (by repeat (first | (with_reducible first | exact HB.out | apply below_alloc | apply pw_below_drewN | apply below_drew1) | exact HB.out)) hb); clear HB; have HB := n0_; clear n0_; (try clear hb); (try clear hb2); (try clear hk); (try clear hi)))
          go_ret
          exact ⟨by first | rfl | (simp [errW_none, errW_some] <;> rfl) | (simp [*, errW_none, errW_some] <;> rfl), by repeat (first | (with_reducible first | exact HB.out | apply below_alloc | apply pw_below_drewN | apply below_drew1) | exact HB.out)⟩
      · replace c5 := Bool.eq_false_iff.mpr c5
        subst c5
        have H1 : (some false) = some r := by rw [if_neg (show ¬ (false = true) by decide)] at H; exact H
        clear H
        have H := H1
        clear H1
        obtain rfl := Option.some.inj H
        go_enter Try.func8, Try.ntmps8
        go_wp2_with (first | ((with_reducible refine gate_callee (f := 10) rfl ?_); refine goesL_ (some 4) rfl rfl Try.func10 (by kernel_rfl) rfl #[.int .i64 4] rfl (by (try simp only [List.map_toArray, List.map_cons, List.map_nil]); first | done | rfl | (simp only [List.length_drop, List.length_take]; rfl)) ?_; (with_reducible refine (pool_Best.calls 4 t102 t103 _ A1.out).mono ?_); rintro e w' ⟨rfl, ⟨nd, rfl⟩⟩; refine ⟨_, rfl, ?_⟩) | (go_at_call 7; (with_reducible refine (pool_Safe.calls 4 3 1 false _ A4.out).mono ?_); rintro e w14 ⟨rfl, hb⟩; have n0_ := Aside0.mk (below_step (by repeat (first | (with_reducible first | exact HB.out | apply below_alloc | apply pw_below_drewN | apply below_drew1) | exact HB.out)) hb); clear HB; have HB := n0_; clear n0_; (try clear hb); (try clear hb2); (try clear hk); (try clear hi)))
        go_ret
        exact ⟨by first | rfl | (simp [errW_none, errW_some] <;> rfl) | (simp [*, errW_none, errW_some] <;> rfl), by repeat (first | (with_reducible first | exact HB.out | apply below_alloc | apply pw_below_drewN | apply below_drew1) | exact HB.out)⟩
    · rw [if_neg c3] at H
      have c3b0 : (t103 == 3) = false := beq_eq_false_iff_ne.mpr c3
      have c3b1 : (t103 != 3) = true := bne_iff_ne.mpr c3
      obtain rfl := Option.some.inj H
      go_enter Try.func8, Try.ntmps8
      go_wp2_with (first | ((with_reducible refine gate_callee (f := 10) rfl ?_); refine goesL_ (some 4) rfl rfl Try.func10 (by kernel_rfl) rfl #[.int .i64 4] rfl (by (try simp only [List.map_toArray, List.map_cons, List.map_nil]); first | done | rfl | (simp only [List.length_drop, List.length_take]; rfl)) ?_; (with_reducible refine (pool_Best.calls 4 t102 t103 _ A1.out).mono ?_); rintro e w' ⟨rfl, ⟨nd, rfl⟩⟩; refine ⟨_, rfl, ?_⟩))
      go_ret
      exact ⟨by first | rfl | (simp [errW_none, errW_some] <;> rfl) | (simp [*, errW_none, errW_some] <;> rfl), by repeat (first | (with_reducible first | exact HB.out | apply below_alloc | apply pw_below_drewN | apply below_drew1) | exact HB.out)⟩
  · rw [if_neg c2] at H
    have c2b0 : (t102 == 1) = false := beq_eq_false_iff_ne.mpr c2
    have c2b1 : (t102 != 1) = true := bne_iff_ne.mpr c2
    obtain rfl := Option.some.inj H
    go_enter Try.func8, Try.ntmps8
    go_wp2_with (first | ((with_reducible refine gate_callee (f := 10) rfl ?_); refine goesL_ (some 4) rfl rfl Try.func10 (by kernel_rfl) rfl #[.int .i64 4] rfl (by (try simp only [List.map_toArray, List.map_cons, List.map_nil]); first | done | rfl | (simp only [List.length_drop, List.length_take]; rfl)) ?_; (with_reducible refine (pool_Best.calls 4 t102 t103 _ A1.out).mono ?_); rintro e w' ⟨rfl, ⟨nd, rfl⟩⟩; refine ⟨_, rfl, ?_⟩))
    go_ret
    exact ⟨by first | rfl | (simp [errW_none, errW_some] <;> rfl) | (simp [*, errW_none, errW_some] <;> rfl), by repeat (first | (with_reducible first | exact HB.out | apply below_alloc | apply pw_below_drewN | apply below_drew1) | exact HB.out)⟩

/-! ### pool_Alive: function 15 -/
def pool_Alive.f (a0 : Int) (a1 : Int) (a2 : Int) : Option (Bool) := if a2 ≥ 0 then (if a1 ≥ 0 then (some (decide (a1 ≤ (wrap64 (a0 - a2))))) else (some false)) else (some false)
set_option maxHeartbeats 8000000 in
set_option maxRecDepth 100000 in
theorem pool_Alive.calls (a0 : Int) (a1 : Int) (a2 : Int) (r : Bool) (w : World) (h : pool_Alive.f a0 a1 a2 = some r) :
    Calls Try.prog 15 #[.int .i64 a0, .int .i64 a1, .int .i64 a2] w fun e w' => e = .returned (.bool r) ∧ Drawn0 w w' := by
  have H : (if a2 ≥ 0 then (if a1 ≥ 0 then (some (decide (a1 ≤ (wrap64 (a0 - a2))))) else (some false)) else (some false)) = some r := h
  clear h
  by_cases c4 : a2 ≥ 0
  · rw [if_pos c4] at H
    have c4b0 : decide (0 ≤ a2) = true := decide_eq_true c4
    clear c4
    by_cases c5 : a1 ≥ 0
    · rw [if_pos c5] at H
      have c5b0 : decide (0 ≤ a1) = true := decide_eq_true c5
      clear c5
      obtain rfl := Option.some.inj H
      go_enter Try.func15, Try.ntmps15
      go_wp2
      go_ret
      exact ⟨by first | rfl | (simp; done) | (simp [*]; done), by repeat (first | exact Drawn0.refl _ | apply Drawn0.step)⟩
    · rw [if_neg c5] at H
      have c5b0 : decide (0 ≤ a1) = false := decide_eq_false c5
      clear c5
      obtain rfl := Option.some.inj H
      go_enter Try.func15, Try.ntmps15
      go_wp2
      go_ret
      exact ⟨by first | rfl | (simp; done) | (simp [*]; done), by repeat (first | exact Drawn0.refl _ | apply Drawn0.step)⟩
  · rw [if_neg c4] at H
    have c4b0 : decide (0 ≤ a2) = false := decide_eq_false c4
    clear c4
    obtain rfl := Option.some.inj H
    go_enter Try.func15, Try.ntmps15
    go_wp2
    go_ret
    exact ⟨by first | rfl | (simp; done) | (simp [*]; done), by repeat (first | exact Drawn0.refl _ | apply Drawn0.step)⟩

/-! ### keyeventlaw24_PoolBest: function 5 -/
def keyeventlaw24_PoolBest.l0 : Nat → Int → Int → Int → Int → Option (Bool)
  | 0, _, _, _, _ => none
  | k + 1, x3, x4, x5, x6 => if x6 ≤ x3 then ((pool_Safe.f x3 x6 (wrap64 (x4 + 1))).bind fun t110 => (if t110 = true then ((pool_Alive.f x3 x6 (wrap64 (x4 + 1))).bind fun t111 => (if t111 = true then (some false) else (if x6 < x5 then ((pool_Safe.f x3 x6 x4).bind fun t112 => (if t112 = true then ((pool_Alive.f x3 x6 x4).bind fun t113 => (if t113 = true then (some false) else (keyeventlaw24_PoolBest.l0 k x3 x4 x5 (wrap64 (x6 + 1))))) else (keyeventlaw24_PoolBest.l0 k x3 x4 x5 (wrap64 (x6 + 1))))) else (keyeventlaw24_PoolBest.l0 k x3 x4 x5 (wrap64 (x6 + 1)))))) else (if x6 < x5 then ((pool_Safe.f x3 x6 x4).bind fun t114 => (if t114 = true then ((pool_Alive.f x3 x6 x4).bind fun t115 => (if t115 = true then (some false) else (keyeventlaw24_PoolBest.l0 k x3 x4 x5 (wrap64 (x6 + 1))))) else (keyeventlaw24_PoolBest.l0 k x3 x4 x5 (wrap64 (x6 + 1))))) else (keyeventlaw24_PoolBest.l0 k x3 x4 x5 (wrap64 (x6 + 1)))))) else ((pool_Safe.f x3 x5 x4).bind fun t116 => (if t116 = true then ((pool_Alive.f x3 x5 x4).bind fun t117 => (if t117 = true then (if x4 = (wrap64 (Int.tdiv (wrap64 (x3 - 1)) 3)) then ((keyeventref16_Majority.f x3 x4).bind fun t118 => (if x5 = t118 then ((keyeventlaw24_awake.f).bind fun t119 => (some t119)) else (some false))) else (some false)) else (some false))) else (some false)))
def keyeventlaw24_PoolBest.f (k : Nat) (a0 : Int) : Option (Bool) := (pool_Best.f (wrap64 (Int.tmod a0 40))).bind fun bt107 => (if (wrap64 (Int.tmod a0 40)) = 0 then (if bt107.1 = 0 then (if bt107.2 = 0 then ((keyeventlaw24_awake.f).bind fun t109 => (some t109)) else (some false)) else (some false)) else (keyeventlaw24_PoolBest.l0 k (wrap64 (Int.tmod a0 40)) bt107.1 bt107.2 0))
theorem keyeventlaw24_PoolBest.mono_l : ∀ k, (∀ y0 y1 y2 y3, LeO (keyeventlaw24_PoolBest.l0 k y0 y1 y2 y3) (keyeventlaw24_PoolBest.l0 (k + 1) y0 y1 y2 y3))
  | 0 => fun _ _ _ _ r h => by simp [keyeventlaw24_PoolBest.l0] at h
  | k + 1 => by
    have ih0 := keyeventlaw24_PoolBest.mono_l k
    · intro y0 y1 y2 y3
      unfold keyeventlaw24_PoolBest.l0
      repeat' first
      | (with_reducible exact ih0 _ _ _ _)
      | (with_reducible exact LeO.refl _)
      | (with_reducible exact LeO.none _)
      | (with_reducible refine LeO.ite ?_ ?_)
      | (with_reducible refine LeO.bind ?_ (fun _ => ?_))
      | exact ih0 _ _ _ _
      | exact LeO.none _
      | refine LeO.ite ?_ ?_
      | refine LeO.bind ?_ (fun _ => ?_)
theorem keyeventlaw24_PoolBest.mono : ∀ a0 k, LeO (keyeventlaw24_PoolBest.f k a0) (keyeventlaw24_PoolBest.f (k + 1) a0) := by
  intro a0 k
  have ih0 := keyeventlaw24_PoolBest.mono_l k
  unfold keyeventlaw24_PoolBest.f
  repeat' first
      | (with_reducible exact ih0 _ _ _ _)
      | (with_reducible exact LeO.refl _)
      | (with_reducible exact LeO.none _)
      | (with_reducible refine LeO.ite ?_ ?_)
      | (with_reducible refine LeO.bind ?_ (fun _ => ?_))
      | exact ih0 _ _ _ _
      | exact LeO.none _
      | refine LeO.ite ?_ ?_
      | refine LeO.bind ?_ (fun _ => ?_)
set_option maxHeartbeats 8000000 in
set_option maxRecDepth 100000 in
theorem keyeventlaw24_PoolBest.calls (k : Nat) (a0 : Int) (r : Bool) (w : World) (h : keyeventlaw24_PoolBest.f k a0 = some r) :
    Calls Try.prog 5 #[.int .u8 a0] w fun e w' => e = .returned (.bool r) ∧ Below w.heap.size w w' := by
  have HB := Aside0.mk (Below.refl w.heap.size w)
  have H : ((pool_Best.f (wrap64 (Int.tmod a0 40))).bind fun bt107 => (if (wrap64 (Int.tmod a0 40)) = 0 then (if bt107.1 = 0 then (if bt107.2 = 0 then ((keyeventlaw24_awake.f).bind fun t109 => (some t109)) else (some false)) else (some false)) else (keyeventlaw24_PoolBest.l0 k (wrap64 (Int.tmod a0 40)) bt107.1 bt107.2 0))) = some r := h
  clear h
  replace H := Option.bind_eq_some_iff.mp H
  obtain ⟨⟨t107, t108⟩, A20, H⟩ := H
  replace H : (if (wrap64 (Int.tmod a0 40)) = 0 then (if t107 = 0 then (if t108 = 0 then ((keyeventlaw24_awake.f).bind fun t109 => (some t109)) else (some false)) else (some false)) else (keyeventlaw24_PoolBest.l0 k (wrap64 (Int.tmod a0 40)) t107 t108 0)) = some r := H
  have A2 := Aside0.mk A20
  clear A20
  by_cases c3 : (wrap64 (Int.tmod a0 40)) = 0
  · rw [if_pos c3] at H
    have c3b0 : ((wrap64 (Int.tmod a0 40)) == 0) = true := beq_iff_eq.mpr c3
    have c3b1 : ((wrap64 (Int.tmod a0 40)) != 0) = false := bne_eq_false_iff_eq.mpr c3
    clear c3
    by_cases c4 : t107 = 0
    · rw [if_pos c4] at H
      have c4b0 : (t107 == 0) = true := beq_iff_eq.mpr c4
      have c4b1 : (t107 != 0) = false := bne_eq_false_iff_eq.mpr c4
      clear c4
      by_cases c5 : t108 = 0
      · rw [if_pos c5] at H
        have c5b0 : (t108 == 0) = true := beq_iff_eq.mpr c5
        have c5b1 : (t108 != 0) = false := bne_eq_false_iff_eq.mpr c5
        clear c5
        replace H := Option.bind_eq_some_iff.mp H
        obtain ⟨t109, A60, H⟩ := H
        replace H : (some t109) = some r := H
        have A6 := Aside0.mk A60
        clear A60
        obtain rfl := Option.some.inj H
        go_enter Try.func5, Try.ntmps5
        go_wp2_with (first | ((with_reducible refine gate_callee (f := 10) rfl ?_); refine goesL_ (some 12) rfl rfl Try.func10 (by kernel_rfl) rfl #[.int .i64 (wrap64 (Int.tmod a0 40))] rfl (by (try simp only [List.map_toArray, List.map_cons, List.map_nil]); first | done | rfl | (simp only [List.length_drop, List.length_take]; rfl)) ?_; (with_reducible refine (pool_Best.calls (wrap64 (Int.tmod a0 40)) t107 t108 _ A2.out).mono ?_); rintro e w' ⟨rfl, ⟨nd, rfl⟩⟩; refine ⟨_, rfl, ?_⟩) | (go_at_call 8; (with_reducible refine (keyeventlaw24_awake.calls  t109 _ A6.out).mono ?_); rintro e w7 ⟨rfl, hb⟩; have n0_ := Aside0.mk (below_step (by repeat (first | (with_reducible first | exact HB.out | apply below_alloc | apply pw_below_drewN | apply below_drew1) | exact HB.out)) hb); clear HB; have HB := n0_; clear n0_; (try clear hb); (try clear hb2); (try clear hk); (try clear hi)))
        go_ret
        exact ⟨by first | rfl | (simp [errW_none, errW_some] <;> rfl) | (simp [*, errW_none, errW_some] <;> rfl), by repeat (first | (with_reducible first | exact HB.out | apply below_alloc | apply pw_below_drewN | apply below_drew1) | exact HB.out)⟩
      · rw [if_neg c5] at H
        have c5b0 : (t108 == 0) = false := beq_eq_false_iff_ne.mpr c5
        have c5b1 : (t108 != 0) = true := bne_iff_ne.mpr c5
        obtain rfl := Option.some.inj H
        go_enter Try.func5, Try.ntmps5
        go_wp2_with (first | ((with_reducible refine gate_callee (f := 10) rfl ?_); refine goesL_ (some 12) rfl rfl Try.func10 (by kernel_rfl) rfl #[.int .i64 (wrap64 (Int.tmod a0 40))] rfl (by (try simp only [List.map_toArray, List.map_cons, List.map_nil]); first | done | rfl | (simp only [List.length_drop, List.length_take]; rfl)) ?_; (with_reducible refine (pool_Best.calls (wrap64 (Int.tmod a0 40)) t107 t108 _ A2.out).mono ?_); rintro e w' ⟨rfl, ⟨nd, rfl⟩⟩; refine ⟨_, rfl, ?_⟩))
        go_ret
        exact ⟨by first | rfl | (simp [errW_none, errW_some] <;> rfl) | (simp [*, errW_none, errW_some] <;> rfl), by repeat (first | (with_reducible first | exact HB.out | apply below_alloc | apply pw_below_drewN | apply below_drew1) | exact HB.out)⟩
    · rw [if_neg c4] at H
      have c4b0 : (t107 == 0) = false := beq_eq_false_iff_ne.mpr c4
      have c4b1 : (t107 != 0) = true := bne_iff_ne.mpr c4
      obtain rfl := Option.some.inj H
      go_enter Try.func5, Try.ntmps5
      go_wp2_with (first | ((with_reducible refine gate_callee (f := 10) rfl ?_); refine goesL_ (some 12) rfl rfl Try.func10 (by kernel_rfl) rfl #[.int .i64 (wrap64 (Int.tmod a0 40))] rfl (by (try simp only [List.map_toArray, List.map_cons, List.map_nil]); first | done | rfl | (simp only [List.length_drop, List.length_take]; rfl)) ?_; (with_reducible refine (pool_Best.calls (wrap64 (Int.tmod a0 40)) t107 t108 _ A2.out).mono ?_); rintro e w' ⟨rfl, ⟨nd, rfl⟩⟩; refine ⟨_, rfl, ?_⟩))
      go_ret
      exact ⟨by first | rfl | (simp [errW_none, errW_some] <;> rfl) | (simp [*, errW_none, errW_some] <;> rfl), by repeat (first | (with_reducible first | exact HB.out | apply below_alloc | apply pw_below_drewN | apply below_drew1) | exact HB.out)⟩
  · rw [if_neg c3] at H
    have c3b0 : ((wrap64 (Int.tmod a0 40)) == 0) = false := beq_eq_false_iff_ne.mpr c3
    have c3b1 : ((wrap64 (Int.tmod a0 40)) != 0) = true := bne_iff_ne.mpr c3
    have H' := Aside0.mk H
    clear H
    go_enter Try.func5, Try.ntmps5
    go_wp2_with (first | ((with_reducible refine gate_callee (f := 10) rfl ?_); refine goesL_ (some 12) rfl rfl Try.func10 (by kernel_rfl) rfl #[.int .i64 (wrap64 (Int.tmod a0 40))] rfl (by (try simp only [List.map_toArray, List.map_cons, List.map_nil]); first | done | rfl | (simp only [List.length_drop, List.length_take]; rfl)) ?_; (with_reducible refine (pool_Best.calls (wrap64 (Int.tmod a0 40)) t107 t108 _ A2.out).mono ?_); rintro e w' ⟨rfl, ⟨nd, rfl⟩⟩; refine ⟨_, rfl, ?_⟩))
    go_loopg [6] k (fun kq v6 w' => ∃ (x6_1 : Int), v6 = .int .i64 x6_1 ∧ Aside0 (keyeventlaw24_PoolBest.l0 kq (wrap64 (Int.tmod a0 40)) t107 t108 x6_1 = some r) ∧ Aside0 (kq ≤ k) ∧ Aside0 (Below w.heap.size w w'))
    case atStart => exact ⟨(0), (by first | rfl | (simp; done) | (simp [*]; done)), H', ⟨Nat.le_refl _⟩, ⟨by repeat (first | (with_reducible first | exact HB.out | apply below_alloc | apply pw_below_drewN | apply below_drew1) | exact HB.out)⟩⟩
    case round =>
      clear H'
      try clear c1
      try clear p2
      try clear c3
      try clear c3b0
      try clear c3b1
      try clear c4
      try clear c4b0
      try clear c4b1
      try clear c5
      try clear c5b0
      try clear c5b1
      try clear p6
      obtain ⟨x6_1, rfl, HA, HK1, HB⟩ := hrel
      cases gk with
      | zero => exact absurd HA.out (by simp [keyeventlaw24_PoolBest.l0])
      | succ k1 =>
        have H := HA.out
        clear HA
        simp only [keyeventlaw24_PoolBest.l0] at H
        by_cases c8 : x6_1 ≤ (wrap64 (Int.tmod a0 40))
        · rw [if_pos c8] at H
          have c8b0 : decide (x6_1 ≤ (wrap64 (Int.tmod a0 40))) = true := decide_eq_true c8
          clear c8
          replace H := Option.bind_eq_some_iff.mp H
          obtain ⟨t110, A90, H⟩ := H
          replace H : (if t110 = true then ((pool_Alive.f (wrap64 (Int.tmod a0 40)) x6_1 (wrap64 (t107 + 1))).bind fun t111 => (if t111 = true then (some false) else (if x6_1 < t108 then ((pool_Safe.f (wrap64 (Int.tmod a0 40)) x6_1 t107).bind fun t112 => (if t112 = true then ((pool_Alive.f (wrap64 (Int.tmod a0 40)) x6_1 t107).bind fun t113 => (if t113 = true then (some false) else (keyeventlaw24_PoolBest.l0 k1 (wrap64 (Int.tmod a0 40)) t107 t108 (wrap64 (x6_1 + 1))))) else (keyeventlaw24_PoolBest.l0 k1 (wrap64 (Int.tmod a0 40)) t107 t108 (wrap64 (x6_1 + 1))))) else (keyeventlaw24_PoolBest.l0 k1 (wrap64 (Int.tmod a0 40)) t107 t108 (wrap64 (x6_1 + 1)))))) else (if x6_1 < t108 then ((pool_Safe.f (wrap64 (Int.tmod a0 40)) x6_1 t107).bind fun t114 => (if t114 = true then ((pool_Alive.f (wrap64 (Int.tmod a0 40)) x6_1 t107).bind fun t115 => (if t115 = true then (some false) else (keyeventlaw24_PoolBest.l0 k1 (wrap64 (Int.tmod a0 40)) t107 t108 (wrap64 (x6_1 + 1))))) else (keyeventlaw24_PoolBest.l0 k1 (wrap64 (Int.tmod a0 40)) t107 t108 (wrap64 (x6_1 + 1))))) else (keyeventlaw24_PoolBest.l0 k1 (wrap64 (Int.tmod a0 40)) t107 t108 (wrap64 (x6_1 + 1))))) = some r := H
          have A9 := Aside0.mk A90
          clear A90
          by_cases c10 : t110 = true
          · subst c10
            have H1 : ((pool_Alive.f (wrap64 (Int.tmod a0 40)) x6_1 (wrap64 (t107 + 1))).bind fun t111 => (if t111 = true then (some false) else (if x6_1 < t108 then ((pool_Safe.f (wrap64 (Int.tmod a0 40)) x6_1 t107).bind fun t112 => (if t112 = true then ((pool_Alive.f (wrap64 (Int.tmod a0 40)) x6_1 t107).bind fun t113 => (if t113 = true then (some false) else (keyeventlaw24_PoolBest.l0 k1 (wrap64 (Int.tmod a0 40)) t107 t108 (wrap64 (x6_1 + 1))))) else (keyeventlaw24_PoolBest.l0 k1 (wrap64 (Int.tmod a0 40)) t107 t108 (wrap64 (x6_1 + 1))))) else (keyeventlaw24_PoolBest.l0 k1 (wrap64 (Int.tmod a0 40)) t107 t108 (wrap64 (x6_1 + 1)))))) = some r := by rw [if_pos rfl] at H; exact H
            clear H
            have H := H1
            clear H1
            replace H := Option.bind_eq_some_iff.mp H
            obtain ⟨t111, A110, H⟩ := H
            replace H : (if t111 = true then (some false) else (if x6_1 < t108 then ((pool_Safe.f (wrap64 (Int.tmod a0 40)) x6_1 t107).bind fun t112 => (if t112 = true then ((pool_Alive.f (wrap64 (Int.tmod a0 40)) x6_1 t107).bind fun t113 => (if t113 = true then (some false) else (keyeventlaw24_PoolBest.l0 k1 (wrap64 (Int.tmod a0 40)) t107 t108 (wrap64 (x6_1 + 1))))) else (keyeventlaw24_PoolBest.l0 k1 (wrap64 (Int.tmod a0 40)) t107 t108 (wrap64 (x6_1 + 1))))) else (keyeventlaw24_PoolBest.l0 k1 (wrap64 (Int.tmod a0 40)) t107 t108 (wrap64 (x6_1 + 1))))) = some r := H
            have A11 := Aside0.mk A110
            clear A110
            by_cases c12 : t111 = true
            · subst c12
              have H1 : (some false) = some r := by rw [if_pos rfl] at H; exact H
              clear H
              have H := H1
              clear H1
              obtain rfl := Option.some.inj H
              go_wp2_with (first | ((with_reducible refine gate_callee (f := 7) rfl ?_); refine goesL_ (some 35) rfl rfl Try.func7 (by kernel_rfl) rfl #[.int .i64 (wrap64 (Int.tmod a0 40)), .int .i64 x6_1, .int .i64 (wrap64 (t107 + 1))] rfl (by (try simp only [List.map_toArray, List.map_cons, List.map_nil]); first | done | rfl | (simp only [List.length_drop, List.length_take]; rfl)) ?_; (with_reducible refine (pool_Safe.calls (wrap64 (Int.tmod a0 40)) x6_1 (wrap64 (t107 + 1)) true _ A9.out).mono ?_); rintro e w13 ⟨rfl, hb⟩; refine ⟨_, rfl, ?_⟩; have n0_ := Aside0.mk (below_step (by repeat (first | (with_reducible first | exact HB.out | apply below_alloc | apply pw_below_drewN | apply below_drew1) | exact HB.out)) hb); clear HB; have HB := n0_; clear n0_; (try clear hb); (try clear hb2); (try clear hk); (try clear hi)) | (go_at_call 15; (with_reducible refine (pool_Alive.calls (wrap64 (Int.tmod a0 40)) x6_1 (wrap64 (t107 + 1)) true _ A11.out).mono ?_); rintro e w' ⟨rfl, ⟨nd, rfl⟩⟩))
              go_ret
              exact ⟨by first | rfl | (simp [errW_none, errW_some] <;> rfl) | (simp [*, errW_none, errW_some] <;> rfl), by repeat (first | (with_reducible first | exact HB.out | apply below_alloc | apply pw_below_drewN | apply below_drew1) | exact HB.out)⟩
            · replace c12 := Bool.eq_false_iff.mpr c12
              subst c12
              have H1 : (if x6_1 < t108 then ((pool_Safe.f (wrap64 (Int.tmod a0 40)) x6_1 t107).bind fun t112 => (if t112 = true then ((pool_Alive.f (wrap64 (Int.tmod a0 40)) x6_1 t107).bind fun t113 => (if t113 = true then (some false) else (keyeventlaw24_PoolBest.l0 k1 (wrap64 (Int.tmod a0 40)) t107 t108 (wrap64 (x6_1 + 1))))) else (keyeventlaw24_PoolBest.l0 k1 (wrap64 (Int.tmod a0 40)) t107 t108 (wrap64 (x6_1 + 1))))) else (keyeventlaw24_PoolBest.l0 k1 (wrap64 (Int.tmod a0 40)) t107 t108 (wrap64 (x6_1 + 1)))) = some r := by rw [if_neg (show ¬ (false = true) by decide)] at H; exact H
              clear H
              have H := H1
              clear H1
              by_cases c14 : x6_1 < t108
              · rw [if_pos c14] at H
                have c14b0 : decide (x6_1 < t108) = true := decide_eq_true c14
                clear c14
                replace H := Option.bind_eq_some_iff.mp H
                obtain ⟨t112, A150, H⟩ := H
                replace H : (if t112 = true then ((pool_Alive.f (wrap64 (Int.tmod a0 40)) x6_1 t107).bind fun t113 => (if t113 = true then (some false) else (keyeventlaw24_PoolBest.l0 k1 (wrap64 (Int.tmod a0 40)) t107 t108 (wrap64 (x6_1 + 1))))) else (keyeventlaw24_PoolBest.l0 k1 (wrap64 (Int.tmod a0 40)) t107 t108 (wrap64 (x6_1 + 1)))) = some r := H
                have A15 := Aside0.mk A150
                clear A150
                by_cases c16 : t112 = true
                · subst c16
                  have H1 : ((pool_Alive.f (wrap64 (Int.tmod a0 40)) x6_1 t107).bind fun t113 => (if t113 = true then (some false) else (keyeventlaw24_PoolBest.l0 k1 (wrap64 (Int.tmod a0 40)) t107 t108 (wrap64 (x6_1 + 1))))) = some r := by rw [if_pos rfl] at H; exact H
                  clear H
                  have H := H1
                  clear H1
                  replace H := Option.bind_eq_some_iff.mp H
                  obtain ⟨t113, A170, H⟩ := H
                  replace H : (if t113 = true then (some false) else (keyeventlaw24_PoolBest.l0 k1 (wrap64 (Int.tmod a0 40)) t107 t108 (wrap64 (x6_1 + 1)))) = some r := H
                  have A17 := Aside0.mk A170
                  clear A170
                  by_cases c18 : t113 = true
                  · subst c18
                    have H1 : (some false) = some r := by rw [if_pos rfl] at H; exact H
                    clear H
                    have H := H1
                    clear H1
                    obtain rfl := Option.some.inj H
                    go_wp2_with (first | ((with_reducible refine gate_callee (f := 7) rfl ?_); refine goesL_ (some 35) rfl rfl Try.func7 (by kernel_rfl) rfl #[.int .i64 (wrap64 (Int.tmod a0 40)), .int .i64 x6_1, .int .i64 (wrap64 (t107 + 1))] rfl (by (try simp only [List.map_toArray, List.map_cons, List.map_nil]); first | done | rfl | (simp only [List.length_drop, List.length_take]; rfl)) ?_; (with_reducible refine (pool_Safe.calls (wrap64 (Int.tmod a0 40)) x6_1 (wrap64 (t107 + 1)) true _ A9.out).mono ?_); rintro e w19 ⟨rfl, hb⟩; refine ⟨_, rfl, ?_⟩; have n0_ := Aside0.mk (below_step (by repeat (first | (with_reducible first | exact HB.out | apply below_alloc | apply pw_below_drewN | apply below_drew1) | exact HB.out)) hb); clear HB; have HB := n0_; clear n0_; (try clear hb); (try clear hb2); (try clear hk); (try clear hi)) | (go_at_call 15; (with_reducible refine (pool_Alive.calls (wrap64 (Int.tmod a0 40)) x6_1 (wrap64 (t107 + 1)) false _ A11.out).mono ?_); rintro e w' ⟨rfl, ⟨nd, rfl⟩⟩) | (go_at_call 7; (with_reducible refine (pool_Safe.calls (wrap64 (Int.tmod a0 40)) x6_1 t107 true _ A15.out).mono ?_); rintro e w20 ⟨rfl, hb⟩; have n0_ := Aside0.mk (below_step (by repeat (first | (with_reducible first | exact HB.out | apply below_alloc | apply pw_below_drewN | apply below_drew1) | exact HB.out)) hb); clear HB; have HB := n0_; clear n0_; (try clear hb); (try clear hb2); (try clear hk); (try clear hi)) | (go_at_call 15; (with_reducible refine (pool_Alive.calls (wrap64 (Int.tmod a0 40)) x6_1 t107 true _ A17.out).mono ?_); rintro e w' ⟨rfl, ⟨nd, rfl⟩⟩))
                    go_ret
                    exact ⟨by first | rfl | (simp [errW_none, errW_some] <;> rfl) | (simp [*, errW_none, errW_some] <;> rfl), by repeat (first | (with_reducible first | exact HB.out | apply below_alloc | apply pw_below_drewN | apply below_drew1) | exact HB.out)⟩
                  · replace c18 := Bool.eq_false_iff.mpr c18
                    subst c18
                    have H1 : (keyeventlaw24_PoolBest.l0 k1 (wrap64 (Int.tmod a0 40)) t107 t108 (wrap64 (x6_1 + 1))) = some r := by rw [if_neg (show ¬ (false = true) by decide)] at H; exact H
                    clear H
                    have H := H1
                    clear H1
                    have H' := Aside0.mk H
                    clear H
                    go_wp2_with (first | ((with_reducible refine gate_callee (f := 7) rfl ?_); refine goesL_ (some 35) rfl rfl Try.func7 (by kernel_rfl) rfl #[.int .i64 (wrap64 (Int.tmod a0 40)), .int .i64 x6_1, .int .i64 (wrap64 (t107 + 1))] rfl (by (try simp only [List.map_toArray, List.map_cons, List.map_nil]); first | done | rfl | (simp only [List.length_drop, List.length_take]; rfl)) ?_; (with_reducible refine (pool_Safe.calls (wrap64 (Int.tmod a0 40)) x6_1 (wrap64 (t107 + 1)) true _ A9.out).mono ?_); rintro e w21 ⟨rfl, hb⟩; refine ⟨_, rfl, ?_⟩; have n0_ := Aside0.mk (below_step (by repeat (first | (with_reducible first | exact HB.out | apply below_alloc | apply pw_below_drewN | apply below_drew1) | exact HB.out)) hb); clear HB; have HB := n0_; clear n0_; (try clear hb); (try clear hb2); (try clear hk); (try clear hi)) | (go_at_call 15; (with_reducible refine (pool_Alive.calls (wrap64 (Int.tmod a0 40)) x6_1 (wrap64 (t107 + 1)) false _ A11.out).mono ?_); rintro e w' ⟨rfl, ⟨nd, rfl⟩⟩) | (go_at_call 7; (with_reducible refine (pool_Safe.calls (wrap64 (Int.tmod a0 40)) x6_1 t107 true _ A15.out).mono ?_); rintro e w22 ⟨rfl, hb⟩; have n0_ := Aside0.mk (below_step (by repeat (first | (with_reducible first | exact HB.out | apply below_alloc | apply pw_below_drewN | apply below_drew1) | exact HB.out)) hb); clear HB; have HB := n0_; clear n0_; (try clear hb); (try clear hb2); (try clear hk); (try clear hi)) | (go_at_call 15; (with_reducible refine (pool_Alive.calls (wrap64 (Int.tmod a0 40)) x6_1 t107 false _ A17.out).mono ?_); rintro e w' ⟨rfl, ⟨nd, rfl⟩⟩))
                    go_roundg k1
                    case measure => have := HK1.out; omega
                    case rel => exact ⟨(wrap64 (x6_1 + 1)), (by first | rfl | (simp; done) | (simp [*]; done)), H', ⟨by have := HK1.out; omega⟩, ⟨by repeat (first | (with_reducible first | exact HB.out | apply below_alloc | apply pw_below_drewN | apply below_drew1) | exact HB.out)⟩⟩
                · replace c16 := Bool.eq_false_iff.mpr c16
                  subst c16
                  have H1 : (keyeventlaw24_PoolBest.l0 k1 (wrap64 (Int.tmod a0 40)) t107 t108 (wrap64 (x6_1 + 1))) = some r := by rw [if_neg (show ¬ (false = true) by decide)] at H; exact H
                  clear H
                  have H := H1
                  clear H1
                  have H' := Aside0.mk H
                  clear H
                  go_wp2_with (first | ((with_reducible refine gate_callee (f := 7) rfl ?_); refine goesL_ (some 35) rfl rfl Try.func7 (by kernel_rfl) rfl #[.int .i64 (wrap64 (Int.tmod a0 40)), .int .i64 x6_1, .int .i64 (wrap64 (t107 + 1))] rfl (by (try simp only [List.map_toArray, List.map_cons, List.map_nil]); first | done | rfl | (simp only [List.length_drop, List.length_take]; rfl)) ?_; (with_reducible refine (pool_Safe.calls (wrap64 (Int.tmod a0 40)) x6_1 (wrap64 (t107 + 1)) true _ A9.out).mono ?_); rintro e w23 ⟨rfl, hb⟩; refine ⟨_, rfl, ?_⟩; have n0_ := Aside0.mk (below_step (by repeat (first | (with_reducible first | exact HB.out | apply below_alloc | apply pw_below_drewN | apply below_drew1) | exact HB.out)) hb); clear HB; have HB := n0_; clear n0_; (try clear hb); (try clear hb2); (try clear hk); (try clear hi)) | (go_at_call 15; (with_reducible refine (pool_Alive.calls (wrap64 (Int.tmod a0 40)) x6_1 (wrap64 (t107 + 1)) false _ A11.out).mono ?_); rintro e w' ⟨rfl, ⟨nd, rfl⟩⟩) | (go_at_call 7; (with_reducible refine (pool_Safe.calls (wrap64 (Int.tmod a0 40)) x6_1 t107 false _ A15.out).mono ?_); rintro e w24 ⟨rfl, hb⟩; have n0_ := Aside0.mk (below_step (by repeat (first | (with_reducible first | exact HB.out | apply below_alloc | apply pw_below_drewN | apply below_drew1) | exact HB.out)) hb); clear HB; have HB := n0_; clear n0_; (try clear hb); (try clear hb2); (try clear hk); (try clear hi)))
                  go_roundg k1
                  case measure => have := HK1.out; omega
                  case rel => exact ⟨(wrap64 (x6_1 + 1)), (by first | rfl | (simp; done) | (simp [*]; done)), H', ⟨by have := HK1.out; omega⟩, ⟨by repeat (first | (with_reducible first | exact HB.out | apply below_alloc | apply pw_below_drewN | apply below_drew1) | exact HB.out)⟩⟩
              · rw [if_neg c14] at H
                have c14b0 : decide (x6_1 < t108) = false := decide_eq_false c14
                clear c14
                have H' := Aside0.mk H
                clear H
                go_wp2_with (first | ((with_reducible refine gate_callee (f := 7) rfl ?_); refine goesL_ (some 35) rfl rfl Try.func7 (by kernel_rfl) rfl #[.int .i64 (wrap64 (Int.tmod a0 40)), .int .i64 x6_1, .int .i64 (wrap64 (t107 + 1))] rfl (by (try simp only [List.map_toArray, List.map_cons, List.map_nil]); first | done | rfl | (simp only [List.length_drop, List.length_take]; rfl)) ?_; (with_reducible refine (pool_Safe.calls (wrap64 (Int.tmod a0 40)) x6_1 (wrap64 (t107 + 1)) true _ A9.out).mono ?_); rintro e w25 ⟨rfl, hb⟩; refine ⟨_, rfl, ?_⟩; have n0_ := Aside0.mk (below_step (by repeat (first | (with_reducible first | exact HB.out | apply below_alloc | apply pw_below_drewN | apply below_drew1) | exact HB.out)) hb); clear HB; have HB := n0_; clear n0_; (try clear hb); (try clear hb2); (try clear hk); (try clear hi)) | (go_at_call 15; (with_reducible refine (pool_Alive.calls (wrap64 (Int.tmod a0 40)) x6_1 (wrap64 (t107 + 1)) false _ A11.out).mono ?_); rintro e w' ⟨rfl, ⟨nd, rfl⟩⟩))
                go_roundg k1
                case measure => have := HK1.out; omega
                case rel => exact ⟨(wrap64 (x6_1 + 1)), (by first | rfl | (simp; done) | (simp [*]; done)), H', ⟨by have := HK1.out; omega⟩, ⟨by repeat (first | (with_reducible first | exact HB.out | apply below_alloc | apply pw_below_drewN | apply below_drew1) | exact HB.out)⟩⟩
          · replace c10 := Bool.eq_false_iff.mpr c10
            subst c10
            have H1 : (if x6_1 < t108 then ((pool_Safe.f (wrap64 (Int.tmod a0 40)) x6_1 t107).bind fun t114 => (if t114 = true then ((pool_Alive.f (wrap64 (Int.tmod a0 40)) x6_1 t107).bind fun t115 => (if t115 = true then (some false) else (keyeventlaw24_PoolBest.l0 k1 (wrap64 (Int.tmod a0 40)) t107 t108 (wrap64 (x6_1 + 1))))) else (keyeventlaw24_PoolBest.l0 k1 (wrap64 (Int.tmod a0 40)) t107 t108 (wrap64 (x6_1 + 1))))) else (keyeventlaw24_PoolBest.l0 k1 (wrap64 (Int.tmod a0 40)) t107 t108 (wrap64 (x6_1 + 1)))) = some r := by rw [if_neg (show ¬ (false = true) by decide)] at H; exact H
            clear H
            have H := H1
            clear H1
            by_cases c26 : x6_1 < t108
            · rw [if_pos c26] at H
              have c26b0 : decide (x6_1 < t108) = true := decide_eq_true c26
              clear c26
              replace H := Option.bind_eq_some_iff.mp H
              obtain ⟨t114, A270, H⟩ := H
              replace H : (if t114 = true then ((pool_Alive.f (wrap64 (Int.tmod a0 40)) x6_1 t107).bind fun t115 => (if t115 = true then (some false) else (keyeventlaw24_PoolBest.l0 k1 (wrap64 (Int.tmod a0 40)) t107 t108 (wrap64 (x6_1 + 1))))) else (keyeventlaw24_PoolBest.l0 k1 (wrap64 (Int.tmod a0 40)) t107 t108 (wrap64 (x6_1 + 1)))) = some r := H
              have A27 := Aside0.mk A270
              clear A270
              by_cases c28 : t114 = true
              · subst c28
                have H1 : ((pool_Alive.f (wrap64 (Int.tmod a0 40)) x6_1 t107).bind fun t115 => (if t115 = true then (some false) else (keyeventlaw24_PoolBest.l0 k1 (wrap64 (Int.tmod a0 40)) t107 t108 (wrap64 (x6_1 + 1))))) = some r := by rw [if_pos rfl] at H; exact H
                clear H
                have H := H1
                clear H1
                replace H := Option.bind_eq_some_iff.mp H
                obtain ⟨t115, A290, H⟩ := H
                replace H : (if t115 = true then (some false) else (keyeventlaw24_PoolBest.l0 k1 (wrap64 (Int.tmod a0 40)) t107 t108 (wrap64 (x6_1 + 1)))) = some r := H
                have A29 := Aside0.mk A290
                clear A290
                by_cases c30 : t115 = true
                · subst c30
                  have H1 : (some false) = some r := by rw [if_pos rfl] at H; exact H
                  clear H
                  have H := H1
                  clear H1
                  obtain rfl := Option.some.inj H
                  go_wp2_with (first | ((with_reducible refine gate_callee (f := 7) rfl ?_); refine goesL_ (some 35) rfl rfl Try.func7 (by kernel_rfl) rfl #[.int .i64 (wrap64 (Int.tmod a0 40)), .int .i64 x6_1, .int .i64 (wrap64 (t107 + 1))] rfl (by (try simp only [List.map_toArray, List.map_cons, List.map_nil]); first | done | rfl | (simp only [List.length_drop, List.length_take]; rfl)) ?_; (with_reducible refine (pool_Safe.calls (wrap64 (Int.tmod a0 40)) x6_1 (wrap64 (t107 + 1)) false _ A9.out).mono ?_); rintro e w31 ⟨rfl, hb⟩; refine ⟨_, rfl, ?_⟩; have n0_ := Aside0.mk (below_step (by repeat (first | (with_reducible first | exact HB.out | apply below_alloc | apply pw_below_drewN | apply below_drew1) | exact HB.out)) hb); clear HB; have HB := n0_; clear n0_; (try clear hb); (try clear hb2); (try clear hk); (try clear hi)) | (go_at_call 7; (with_reducible refine (pool_Safe.calls (wrap64 (Int.tmod a0 40)) x6_1 t107 true _ A27.out).mono ?_); rintro e w32 ⟨rfl, hb⟩; have n0_ := Aside0.mk (below_step (by repeat (first | (with_reducible first | exact HB.out | apply below_alloc | apply pw_below_drewN | apply below_drew1) | exact HB.out)) hb); clear HB; have HB := n0_; clear n0_; (try clear hb); (try clear hb2); (try clear hk); (try clear hi)) | (go_at_call 15; (with_reducible refine (pool_Alive.calls (wrap64 (Int.tmod a0 40)) x6_1 t107 true _ A29.out).mono ?_); rintro e w' ⟨rfl, ⟨nd, rfl⟩⟩))
                  go_ret
                  exact ⟨by first | rfl | (simp [errW_none, errW_some] <;> rfl) | (simp [*, errW_none, errW_some] <;> rfl), by repeat (first | (with_reducible first | exact HB.out | apply below_alloc | apply pw_below_drewN | apply below_drew1) | exact HB.out)⟩
                · replace c30 := Bool.eq_false_iff.mpr c30
                  subst c30
                  have H1 : (keyeventlaw24_PoolBest.l0 k1 (wrap64 (Int.tmod a0 40)) t107 t108 (wrap64 (x6_1 + 1))) = some r := by rw [if_neg (show ¬ (false = true) by decide)] at H; exact H
                  clear H
                  have H := H1
                  clear H1
                  have H' := Aside0.mk H
                  clear H
                  go_wp2_with (first | ((with_reducible refine gate_callee (f := 7) rfl ?_); refine goesL_ (some 35) rfl rfl Try.func7 (by kernel_rfl) rfl #[.int .i64 (wrap64 (Int.tmod a0 40)), .int .i64 x6_1, .int .i64 (wrap64 (t107 + 1))] rfl (by (try simp only [List.map_toArray, List.map_cons, List.map_nil]); first | done | rfl | (simp only [List.length_drop, List.length_take]; rfl)) ?_; (with_reducible refine (pool_Safe.calls (wrap64 (Int.tmod a0 40)) x6_1 (wrap64 (t107 + 1)) false _ A9.out).mono ?_); rintro e w33 ⟨rfl, hb⟩; refine ⟨_, rfl, ?_⟩; have n0_ := Aside0.mk (below_step (by repeat (first | (with_reducible first | exact HB.out | apply below_alloc | apply pw_below_drewN | apply below_drew1) | exact HB.out)) hb); clear HB; have HB := n0_; clear n0_; (try clear hb); (try clear hb2); (try clear hk); (try clear hi)) | (go_at_call 7; (with_reducible refine (pool_Safe.calls (wrap64 (Int.tmod a0 40)) x6_1 t107 true _ A27.out).mono ?_); rintro e w34 ⟨rfl, hb⟩; have n0_ := Aside0.mk (below_step (by repeat (first | (with_reducible first | exact HB.out | apply below_alloc | apply pw_below_drewN | apply below_drew1) | exact HB.out)) hb); clear HB; have HB := n0_; clear n0_; (try clear hb); (try clear hb2); (try clear hk); (try clear hi)) | (go_at_call 15; (with_reducible refine (pool_Alive.calls (wrap64 (Int.tmod a0 40)) x6_1 t107 false _ A29.out).mono ?_); rintro e w' ⟨rfl, ⟨nd, rfl⟩⟩))
                  go_roundg k1
                  case measure => have := HK1.out; omega
                  case rel => exact ⟨(wrap64 (x6_1 + 1)), (by first | rfl | (simp; done) | (simp [*]; done)), H', ⟨by have := HK1.out; omega⟩, ⟨by repeat (first | (with_reducible first | exact HB.out | apply below_alloc | apply pw_below_drewN | apply below_drew1) | exact HB.out)⟩⟩
              · replace c28 := Bool.eq_false_iff.mpr c28
                subst c28
                have H1 : (keyeventlaw24_PoolBest.l0 k1 (wrap64 (Int.tmod a0 40)) t107 t108 (wrap64 (x6_1 + 1))) = some r := by rw [if_neg (show ¬ (false = true) by decide)] at H; exact H
                clear H
                have H := H1
                clear H1
                have H' := Aside0.mk H
                clear H
                go_wp2_with (first | ((with_reducible refine gate_callee (f := 7) rfl ?_); refine goesL_ (some 35) rfl rfl Try.func7 (by kernel_rfl) rfl #[.int .i64 (wrap64 (Int.tmod a0 40)), .int .i64 x6_1, .int .i64 (wrap64 (t107 + 1))] rfl (by (try simp only [List.map_toArray, List.map_cons, List.map_nil]); first | done | rfl | (simp only [List.length_drop, List.length_take]; rfl)) ?_; (with_reducible refine (pool_Safe.calls (wrap64 (Int.tmod a0 40)) x6_1 (wrap64 (t107 + 1)) false _ A9.out).mono ?_); rintro e w35 ⟨rfl, hb⟩; refine ⟨_, rfl, ?_⟩; have n0_ := Aside0.mk (below_step (by repeat (first | (with_reducible first | exact HB.out | apply below_alloc | apply pw_below_drewN | apply below_drew1) | exact HB.out)) hb); clear HB; have HB := n0_; clear n0_; (try clear hb); (try clear hb2); (try clear hk); (try clear hi)) | (go_at_call 7; (with_reducible refine (pool_Safe.calls (wrap64 (Int.tmod a0 40)) x6_1 t107 false _ A27.out).mono ?_); rintro e w36 ⟨rfl, hb⟩; have n0_ := Aside0.mk (below_step (by repeat (first | (with_reducible first | exact HB.out | apply below_alloc | apply pw_below_drewN | apply below_drew1) | exact HB.out)) hb); clear HB; have HB := n0_; clear n0_; (try clear hb); (try clear hb2); (try clear hk); (try clear hi)))
                go_roundg k1
                case measure => have := HK1.out; omega
                case rel => exact ⟨(wrap64 (x6_1 + 1)), (by first | rfl | (simp; done) | (simp [*]; done)), H', ⟨by have := HK1.out; omega⟩, ⟨by repeat (first | (with_reducible first | exact HB.out | apply below_alloc | apply pw_below_drewN | apply below_drew1) | exact HB.out)⟩⟩
            · rw [if_neg c26] at H
              have c26b0 : decide (x6_1 < t108) = false := decide_eq_false c26
              clear c26
              have H' := Aside0.mk H
              clear H
              go_wp2_with (first | ((with_reducible refine gate_callee (f := 7) rfl ?_); refine goesL_ (some 35) rfl rfl Try.func7 (by kernel_rfl) rfl #[.int .i64 (wrap64 (Int.tmod a0 40)), .int .i64 x6_1, .int .i64 (wrap64 (t107 + 1))] rfl (by (try simp only [List.map_toArray, List.map_cons, List.map_nil]); first | done | rfl | (simp only [List.length_drop, List.length_take]; rfl)) ?_; (with_reducible refine (pool_Safe.calls (wrap64 (Int.tmod a0 40)) x6_1 (wrap64 (t107 + 1)) false _ A9.out).mono ?_); rintro e w37 ⟨rfl, hb⟩; refine ⟨_, rfl, ?_⟩; have n0_ := Aside0.mk (below_step (by repeat (first | (with_reducible first | exact HB.out | apply below_alloc | apply pw_below_drewN | apply below_drew1) | exact HB.out)) hb); clear HB; have HB := n0_; clear n0_; (try clear hb); (try clear hb2); (try clear hk); (try clear hi)))
              go_roundg k1
              case measure => have := HK1.out; omega
              case rel => exact ⟨(wrap64 (x6_1 + 1)), (by first | rfl | (simp; done) | (simp [*]; done)), H', ⟨by have := HK1.out; omega⟩, ⟨by repeat (first | (with_reducible first | exact HB.out | apply below_alloc | apply pw_below_drewN | apply below_drew1) | exact HB.out)⟩⟩
        · rw [if_neg c8] at H
          have c8b0 : decide (x6_1 ≤ (wrap64 (Int.tmod a0 40))) = false := decide_eq_false c8
          clear c8
          replace H := Option.bind_eq_some_iff.mp H
          obtain ⟨t116, A380, H⟩ := H
          replace H : (if t116 = true then ((pool_Alive.f (wrap64 (Int.tmod a0 40)) t108 t107).bind fun t117 => (if t117 = true then (if t107 = (wrap64 (Int.tdiv (wrap64 ((wrap64 (Int.tmod a0 40)) - 1)) 3)) then ((keyeventref16_Majority.f (wrap64 (Int.tmod a0 40)) t107).bind fun t118 => (if t108 = t118 then ((keyeventlaw24_awake.f).bind fun t119 => (some t119)) else (some false))) else (some false)) else (some false))) else (some false)) = some r := H
          have A38 := Aside0.mk A380
          clear A380
          by_cases c39 : t116 = true
          · subst c39
            have H1 : ((pool_Alive.f (wrap64 (Int.tmod a0 40)) t108 t107).bind fun t117 => (if t117 = true then (if t107 = (wrap64 (Int.tdiv (wrap64 ((wrap64 (Int.tmod a0 40)) - 1)) 3)) then ((keyeventref16_Majority.f (wrap64 (Int.tmod a0 40)) t107).bind fun t118 => (if t108 = t118 then ((keyeventlaw24_awake.f).bind fun t119 => (some t119)) else (some false))) else (some false)) else (some false))) = some r := by rw [if_pos rfl] at H; exact H
            clear H
            have H := H1
            clear H1
            replace H := Option.bind_eq_some_iff.mp H
            obtain ⟨t117, A400, H⟩ := H
            replace H : (if t117 = true then (if t107 = (wrap64 (Int.tdiv (wrap64 ((wrap64 (Int.tmod a0 40)) - 1)) 3)) then ((keyeventref16_Majority.f (wrap64 (Int.tmod a0 40)) t107).bind fun t118 => (if t108 = t118 then ((keyeventlaw24_awake.f).bind fun t119 => (some t119)) else (some false))) else (some false)) else (some false)) = some r := H
            have A40 := Aside0.mk A400
            clear A400
            by_cases c41 : t117 = true
            · subst c41
              have H1 : (if t107 = (wrap64 (Int.tdiv (wrap64 ((wrap64 (Int.tmod a0 40)) - 1)) 3)) then ((keyeventref16_Majority.f (wrap64 (Int.tmod a0 40)) t107).bind fun t118 => (if t108 = t118 then ((keyeventlaw24_awake.f).bind fun t119 => (some t119)) else (some false))) else (some false)) = some r := by rw [if_pos rfl] at H; exact H
              clear H
              have H := H1
              clear H1
              by_cases c42 : t107 = (wrap64 (Int.tdiv (wrap64 ((wrap64 (Int.tmod a0 40)) - 1)) 3))
              · rw [if_pos c42] at H
                have c42b0 : (t107 == (wrap64 (Int.tdiv (wrap64 ((wrap64 (Int.tmod a0 40)) - 1)) 3))) = true := beq_iff_eq.mpr c42
                have c42b1 : (t107 != (wrap64 (Int.tdiv (wrap64 ((wrap64 (Int.tmod a0 40)) - 1)) 3))) = false := bne_eq_false_iff_eq.mpr c42
                clear c42
                replace H := Option.bind_eq_some_iff.mp H
                obtain ⟨t118, A430, H⟩ := H
                replace H : (if t108 = t118 then ((keyeventlaw24_awake.f).bind fun t119 => (some t119)) else (some false)) = some r := H
                have A43 := Aside0.mk A430
                clear A430
                by_cases c44 : t108 = t118
                · rw [if_pos c44] at H
                  have c44b0 : (t108 == t118) = true := beq_iff_eq.mpr c44
                  have c44b1 : (t108 != t118) = false := bne_eq_false_iff_eq.mpr c44
                  clear c44
                  replace H := Option.bind_eq_some_iff.mp H
                  obtain ⟨t119, A450, H⟩ := H
                  replace H : (some t119) = some r := H
                  have A45 := Aside0.mk A450
                  clear A450
                  obtain rfl := Option.some.inj H
                  go_wp2_with (first | ((with_reducible refine gate_callee (f := 7) rfl ?_); refine goesL_ (some 63) rfl rfl Try.func7 (by kernel_rfl) rfl #[.int .i64 (wrap64 (Int.tmod a0 40)), .int .i64 t108, .int .i64 t107] rfl (by (try simp only [List.map_toArray, List.map_cons, List.map_nil]); first | done | rfl | (simp only [List.length_drop, List.length_take]; rfl)) ?_; (with_reducible refine (pool_Safe.calls (wrap64 (Int.tmod a0 40)) t108 t107 true _ A38.out).mono ?_); rintro e w46 ⟨rfl, hb⟩; refine ⟨_, rfl, ?_⟩; have n0_ := Aside0.mk (below_step (by repeat (first | (with_reducible first | exact HB.out | apply below_alloc | apply pw_below_drewN | apply below_drew1) | exact HB.out)) hb); clear HB; have HB := n0_; clear n0_; (try clear hb); (try clear hb2); (try clear hk); (try clear hi)) | (go_at_call 15; (with_reducible refine (pool_Alive.calls (wrap64 (Int.tmod a0 40)) t108 t107 true _ A40.out).mono ?_); rintro e w' ⟨rfl, ⟨nd, rfl⟩⟩) | (go_at_call 6; (with_reducible refine (keyeventref16_Majority.calls (wrap64 (Int.tmod a0 40)) t107 t118 _ A43.out).mono ?_); rintro e w' ⟨rfl, ⟨nd, rfl⟩⟩) | (go_at_call 8; (with_reducible refine (keyeventlaw24_awake.calls  t119 _ A45.out).mono ?_); rintro e w47 ⟨rfl, hb⟩; have n0_ := Aside0.mk (below_step (by repeat (first | (with_reducible first | exact HB.out | apply below_alloc | apply pw_below_drewN | apply below_drew1) | exact HB.out)) hb); clear HB; have HB := n0_; clear n0_; (try clear hb); (try clear hb2); (try clear hk); (try clear hi)))
                  go_ret
                  exact ⟨by first | rfl | (simp [errW_none, errW_some] <;> rfl) | (simp [*, errW_none, errW_some] <;> rfl), by repeat (first | (with_reducible first | exact HB.out | apply below_alloc | apply pw_below_drewN | apply below_drew1) | exact HB.out)⟩
                · rw [if_neg c44] at H
                  have c44b0 : (t108 == t118) = false := beq_eq_false_iff_ne.mpr c44
                  have c44b1 : (t108 != t118) = true := bne_iff_ne.mpr c44
                  obtain rfl := Option.some.inj H
                  go_wp2_with (first | ((with_reducible refine gate_callee (f := 7) rfl ?_); refine goesL_ (some 63) rfl rfl Try.func7 (by kernel_rfl) rfl #[.int .i64 (wrap64 (Int.tmod a0 40)), .int .i64 t108, .int .i64 t107] rfl (by (try simp only [List.map_toArray, List.map_cons, List.map_nil]); first | done | rfl | (simp only [List.length_drop, List.length_take]; rfl)) ?_; (with_reducible refine (pool_Safe.calls (wrap64 (Int.tmod a0 40)) t108 t107 true _ A38.out).mono ?_); rintro e w48 ⟨rfl, hb⟩; refine ⟨_, rfl, ?_⟩; have n0_ := Aside0.mk (below_step (by repeat (first | (with_reducible first | exact HB.out | apply below_alloc | apply pw_below_drewN | apply below_drew1) | exact HB.out)) hb); clear HB; have HB := n0_; clear n0_; (try clear hb); (try clear hb2); (try clear hk); (try clear hi)) | (go_at_call 15; (with_reducible refine (pool_Alive.calls (wrap64 (Int.tmod a0 40)) t108 t107 true _ A40.out).mono ?_); rintro e w' ⟨rfl, ⟨nd, rfl⟩⟩) | (go_at_call 6; (with_reducible refine (keyeventref16_Majority.calls (wrap64 (Int.tmod a0 40)) t107 t118 _ A43.out).mono ?_); rintro e w' ⟨rfl, ⟨nd, rfl⟩⟩))
                  go_ret
                  exact ⟨by first | rfl | (simp [errW_none, errW_some] <;> rfl) | (simp [*, errW_none, errW_some] <;> rfl), by repeat (first | (with_reducible first | exact HB.out | apply below_alloc | apply pw_below_drewN | apply below_drew1) | exact HB.out)⟩
              · rw [if_neg c42] at H
                have c42b0 : (t107 == (wrap64 (Int.tdiv (wrap64 ((wrap64 (Int.tmod a0 40)) - 1)) 3))) = false := beq_eq_false_iff_ne.mpr c42
                have c42b1 : (t107 != (wrap64 (Int.tdiv (wrap64 ((wrap64 (Int.tmod a0 40)) - 1)) 3))) = true := bne_iff_ne.mpr c42
                obtain rfl := Option.some.inj H
                go_wp2_with (first | ((with_reducible refine gate_callee (f := 7) rfl ?_); refine goesL_ (some 63) rfl rfl Try.func7 (by kernel_rfl) rfl #[.int .i64 (wrap64 (Int.tmod a0 40)), .int .i64 t108, .int .i64 t107] rfl (by (try simp only [List.map_toArray, List.map_cons, List.map_nil]); first | done | rfl | (simp only [List.length_drop, List.length_take]; rfl)) ?_; (with_reducible refine (pool_Safe.calls (wrap64 (Int.tmod a0 40)) t108 t107 true _ A38.out).mono ?_); rintro e w49 ⟨rfl, hb⟩; refine ⟨_, rfl, ?_⟩; have n0_ := Aside0.mk (below_step (by repeat (first | (with_reducible first | exact HB.out | apply below_alloc | apply pw_below_drewN | apply below_drew1) | exact HB.out)) hb); clear HB; have HB := n0_; clear n0_; (try clear hb); (try clear hb2); (try clear hk); (try clear hi)) | (go_at_call 15; (with_reducible refine (pool_Alive.calls (wrap64 (Int.tmod a0 40)) t108 t107 true _ A40.out).mono ?_); rintro e w' ⟨rfl, ⟨nd, rfl⟩⟩))
                go_ret
                exact ⟨by first | rfl | (simp [errW_none, errW_some] <;> rfl) | (simp [*, errW_none, errW_some] <;> rfl), by repeat (first | (with_reducible first | exact HB.out | apply below_alloc | apply pw_below_drewN | apply below_drew1) | exact HB.out)⟩
            · replace c41 := Bool.eq_false_iff.mpr c41
              subst c41
              have H1 : (some false) = some r := by rw [if_neg (show ¬ (false = true) by decide)] at H; exact H
              clear H
              have H := H1
              clear H1
              obtain rfl := Option.some.inj H
              go_wp2_with (first | ((with_reducible refine gate_callee (f := 7) rfl ?_); refine goesL_ (some 63) rfl rfl Try.func7 (by kernel_rfl) rfl #[.int .i64 (wrap64 (Int.tmod a0 40)), .int .i64 t108, .int .i64 t107] rfl (by (try simp only [List.map_toArray, List.map_cons, List.map_nil]); first | done | rfl | (simp only [List.length_drop, List.length_take]; rfl)) ?_; (with_reducible refine (pool_Safe.calls (wrap64 (Int.tmod a0 40)) t108 t107 true _ A38.out).mono ?_); rintro e w50 ⟨rfl, hb⟩; refine ⟨_, rfl, ?_⟩; have n0_ := Aside0.mk (below_step (by repeat (first | (with_reducible first | exact HB.out | apply below_alloc | apply pw_below_drewN | apply below_drew1) | exact HB.out)) hb); clear HB; have HB := n0_; clear n0_; (try clear hb); (try clear hb2); (try clear hk); (try clear hi)) | (go_at_call 15; (with_reducible refine (pool_Alive.calls (wrap64 (Int.tmod a0 40)) t108 t107 false _ A40.out).mono ?_); rintro e w' ⟨rfl, ⟨nd, rfl⟩⟩))
              go_ret
              exact ⟨by first | rfl | (simp [errW_none, errW_some] <;> rfl) | (simp [*, errW_none, errW_some] <;> rfl), by repeat (first | (with_reducible first | exact HB.out | apply below_alloc | apply pw_below_drewN | apply below_drew1) | exact HB.out)⟩
          · replace c39 := Bool.eq_false_iff.mpr c39
            subst c39
            have H1 : (some false) = some r := by rw [if_neg (show ¬ (false = true) by decide)] at H; exact H
            clear H
            have H := H1
            clear H1
            obtain rfl := Option.some.inj H
            go_wp2_with (first | ((with_reducible refine gate_callee (f := 7) rfl ?_); refine goesL_ (some 63) rfl rfl Try.func7 (by kernel_rfl) rfl #[.int .i64 (wrap64 (Int.tmod a0 40)), .int .i64 t108, .int .i64 t107] rfl (by (try simp only [List.map_toArray, List.map_cons, List.map_nil]); first | done | rfl | (simp only [List.length_drop, List.length_take]; rfl)) ?_; (with_reducible refine (pool_Safe.calls (wrap64 (Int.tmod a0 40)) t108 t107 false _ A38.out).mono ?_); rintro e w51 ⟨rfl, hb⟩; refine ⟨_, rfl, ?_⟩; have n0_ := Aside0.mk (below_step (by repeat (first | (with_reducible first | exact HB.out | apply below_alloc | apply pw_below_drewN | apply below_drew1) | exact HB.out)) hb); clear HB; have HB := n0_; clear n0_; (try clear hb); (try clear hb2); (try clear hk); (try clear hi)))
            go_ret
            exact ⟨by first | rfl | (simp [errW_none, errW_some] <;> rfl) | (simp [*, errW_none, errW_some] <;> rfl), by repeat (first | (with_reducible first | exact HB.out | apply below_alloc | apply pw_below_drewN | apply below_drew1) | exact HB.out)⟩

/-- THE ONE PURE STATEMENT of keyeventlaw24_PoolBest: yours. -/
def keyeventlaw24_PoolBest.Pure : Prop := ∀ (a0 : Int), (Lit.int .u8 a0).wf = true → ∃ k, keyeventlaw24_PoolBest.f k a0 = some true
theorem keyeventlaw24_PoolBest.walk (P : keyeventlaw24_PoolBest.Pure) (a0 : Int) (w : World) (w0 : (Lit.int .u8 a0).wf = true) :
    Calls Try.prog 5 #[.int .u8 a0] w fun e w' => e = .returned (.bool true) ∧ Below w.heap.size w w' := by
  obtain ⟨k, h⟩ := P a0 w0
  refine (keyeventlaw24_PoolBest.calls k a0 true w h).mono ?_
  rintro e w' ⟨rfl, hd⟩
  exact ⟨rfl, hd⟩

end Go.Proofs.Ytphpamjilmdjmaa.PPoolBest
