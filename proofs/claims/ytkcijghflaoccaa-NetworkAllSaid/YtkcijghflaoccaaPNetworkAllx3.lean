-- PRINTED BY print.sh 35421559b90ae4d0a3588c463048766b98c2df88dd9212a6774a882060cdf62d: not written by this session
import Derived.Test.YtkcijghflaoccaaPNetworkAllx0
import Derived.Test.YtkcijghflaoccaaPNetworkAllx2
namespace Go.Proofs.Ytkcijghflaoccaa.PNetworkAll
open Go.RowKit Go.Proofs.YtkcijghflaoccaaW.PrintWords Go.Proofs.YtkcijghflaoccaaW.PrintLast Go.Proofs.YtkcijghflaoccaaW.PrintMore
attribute [local go_sem] max2_int min2_int max_two min_two max_three min_three max_four min_four   -- for this text's walks alone
set_option linter.unusedVariables false
set_option linter.unusedSimpArgs false

/-! ### keyeventplay_Packets: function 10 -/
def keyeventplay_Packets.l0 : Nat → Int → List Int → Int → Int → List (S39) → Option (Int × (List (S39)) × Int)
  | 0, _, _, _, _, _ => none
  | k + 1, x4, x1000, x1001, x138000, x138001 => if x4 > 0 then ((keyeventkit_Dice_Next.f x1000 x1001 x138000).bind fun bt140 => ((keyeventkit_Dice_Next.f x1000 bt140.2 x138000).bind fun bt142 => ((keyeventkit_Dice_Word.f x1000 bt142.2 (([(⟨#[]⟩ : ByteArray), (⟨#[97]⟩ : ByteArray), (⟨#[98, 114, 105, 100, 103, 101]⟩ : ByteArray), (⟨#[109, 105, 108, 108, 32, 97, 110, 100, 32, 102, 111, 114, 100]⟩ : ByteArray)] : List ByteArray))).bind fun bt147 => (if x138001.length < 4398046511104 then (keyeventplay_Packets.l0 k (wrap64 (x4 - 1)) x1000 bt147.2 x138000 (x138001 ++ [(⟨bt140.1, bt142.1, bt147.1⟩ : S39)])) else (none))))) else (some (x138000, x138001, x1001))
def keyeventplay_Packets.f (k : Nat) (s0_0 : List Int) (s0_1 : Int) : Option (Int × (List (S39)) × Int) := (keyeventkit_Dice_Next.f s0_0 s0_1 3).bind fun bt135 => ((keyeventkit_Dice_Next.f s0_0 bt135.2 6).bind fun bt138 => (keyeventplay_Packets.l0 k bt138.1 s0_0 bt138.2 (wrap64 (1 + bt135.1)) ([] : List (S39))))
theorem keyeventplay_Packets.mono_l : ∀ k, (∀ y0 y1 y2 y3 y4, LeO (keyeventplay_Packets.l0 k y0 y1 y2 y3 y4) (keyeventplay_Packets.l0 (k + 1) y0 y1 y2 y3 y4))
  | 0 => fun _ _ _ _ _ r h => by simp [keyeventplay_Packets.l0] at h
  | k + 1 => by
    have ih0 := keyeventplay_Packets.mono_l k
    · intro y0 y1 y2 y3 y4
      unfold keyeventplay_Packets.l0
      repeat' first
      | (with_reducible exact ih0 _ _ _ _ _)
      | (with_reducible exact LeO.refl _)
      | (with_reducible exact LeO.none _)
      | (with_reducible refine LeO.ite ?_ ?_)
      | (with_reducible refine LeO.bind ?_ (fun _ => ?_))
      | exact ih0 _ _ _ _ _
      | exact LeO.none _
      | refine LeO.ite ?_ ?_
      | refine LeO.bind ?_ (fun _ => ?_)
theorem keyeventplay_Packets.mono : ∀ a0 a1 k, LeO (keyeventplay_Packets.f k a0 a1) (keyeventplay_Packets.f (k + 1) a0 a1) := by
  intro a0 a1 k
  have ih0 := keyeventplay_Packets.mono_l k
  unfold keyeventplay_Packets.f
  repeat' first
      | (with_reducible exact ih0 _ _ _ _ _)
      | (with_reducible exact LeO.refl _)
      | (with_reducible exact LeO.none _)
      | (with_reducible refine LeO.ite ?_ ?_)
      | (with_reducible refine LeO.bind ?_ (fun _ => ?_))
      | exact ih0 _ _ _ _ _
      | exact LeO.none _
      | refine LeO.ite ?_ ?_
      | refine LeO.bind ?_ (fun _ => ?_)
def keyeventplay_Packets.T5 : Bool × List (List Nat × List Nat) := (true, [([], []), ([0], [0]), ([], []), ([], []), ([3], [3]), ([2, 4], [2, 4]), ([], []), ([], []), ([7], [7]), ([6, 8, 5], [6, 8]), ([], []), ([], []), ([10, 11, 9], [10, 11]), ([5, 9, 12], [5, 9, 12]), ([13], [13]), ([1, 14, 12], [1, 14]), ([0, 1, 2, 3, 4, 5, 6, 7, 8, 9, 10, 11, 12, 13, 14, 15], []), ([16, 15, 15, 0, 1, 2, 3, 4, 5, 6, 7, 8, 9, 10, 11, 12, 13, 14, 15], [15, 16])])
def keyeventplay_Packets.B5 : List Nat := [0, 1, 0, 0, 8, 28, 0, 0, 128, 508, 0, 0, 4092, 8188, 16380, 32767, 65535, 131071]
theorem keyeventplay_Packets.tab5 : rtab .any (opsOf Try.f10 5) = keyeventplay_Packets.T5 := by kernel_rfl
theorem keyeventplay_Packets.bits5 : waitsOk keyeventplay_Packets.T5.2 keyeventplay_Packets.B5 = true := by kernel_rfl
set_option maxHeartbeats 8000000 in
set_option maxRecDepth 100000 in
theorem keyeventplay_Packets.calls (k : Nat) (g : Nat) (s0_0 : List Int) (s0_1 : Int) (r1 : Int) (r2 : List (S39)) (r3 : Int) (w0 w : World) (hI : IsS54 w0 w g s0_0 s0_1) (hB : Below w0.heap.size w0 w) (h : keyeventplay_Packets.f k s0_0 s0_1 = some (r1, r2, r3)) :
    Calls Try.prog 10 #[.pointer (some ⟨g, 0, none⟩)] w fun e w' => ∃ v1_ : Value, e = .returned (.agg #[.int .i64 r1, v1_]) ∧ Kd.R k39 39 w' w.heap.size (fun _ => True) v1_ r2 ∧ IsS54 w0 w' g s0_0 r3 ∧ Below w0.heap.size w0 w' ∧ KeepBut w w' g none := by
  have hu29 := Try.underlying29
  have hu39 := Try.underlying39
  have HI0 := Aside0.mk hI
  have HK := Aside0.mk (KeepBut.refl w g none)
  have HL := Aside0.mk hB.size
  clear hI
  have HW0 := Aside0.mk hB.size
  have HB := Aside0.mk hB
  clear hB
  have H : ((keyeventkit_Dice_Next.f s0_0 s0_1 3).bind fun bt135 => ((keyeventkit_Dice_Next.f s0_0 bt135.2 6).bind fun bt138 => (keyeventplay_Packets.l0 k bt138.1 s0_0 bt138.2 (wrap64 (1 + bt135.1)) ([] : List (S39))))) = some (r1, r2, r3) := h
  clear h
  replace H := Option.bind_eq_some_iff.mp H
  obtain ⟨⟨t135, t136⟩, A20, H⟩ := H
  replace H : ((keyeventkit_Dice_Next.f s0_0 t136 6).bind fun bt138 => (keyeventplay_Packets.l0 k bt138.1 s0_0 bt138.2 (wrap64 (1 + t135)) ([] : List (S39)))) = some (r1, r2, r3) := H
  have A2 := Aside0.mk A20
  clear A20
  replace H := Option.bind_eq_some_iff.mp H
  obtain ⟨⟨t138, t139⟩, A30, H⟩ := H
  replace H : (keyeventplay_Packets.l0 k t138 s0_0 t139 (wrap64 (1 + t135)) ([] : List (S39))) = some (r1, r2, r3) := H
  have A3 := Aside0.mk A30
  clear A30
  have H' := Aside0.mk H
  clear H
  go_enter Try.func10, Try.ntmps10
  go_wp2_with (first | ((with_reducible refine gate_dst (N := 2) rfl ?_); refine box_event ?hg (N := 2) ?hd (cs := #[.int .i64 0, .slice none 0 0]) (t := 29) ?hr ?_; (case hd => rfl); (case hg => rfl); (case hr => first | (go_simp; done) | (go_simp; rfl)); intro gb134 hg w4 hbox hb; have n0_ := Aside0.mk (IsS54.below (by repeat (first | (with_reducible first | exact HI0.out | apply IsS54.alloc | apply IsS54.drewN | apply IsS54.drew | apply IsS54.set_1) | exact HI0.out)) hb); have n1_ := Aside0.mk (KeepBut.trans (by repeat (first | (with_reducible first | exact HK.out | apply KeepBut.set_ | apply keep_drewN | apply keep_drew | apply keep_alloc) | exact HK.out)) (KeepBut.of_below hb g none) (.inl rfl)); have n2_ := Aside0.mk (below_step (by repeat (first | (with_reducible first | exact HB.out | apply below_alloc | apply pw_below_drewN | apply below_drew1 | refine below_set ?_ (IsS54.ge HI0.out)) | exact HB.out)) hb); have n3_ := Aside0.mk (hbox); have n4_ := Aside0.mk ((by rw [hg]; exact (keep_size (w := w) (g := g) (row := none) (by repeat (first | (with_reducible first | exact HK.out | apply KeepBut.set_ | apply keep_drewN | apply keep_drew | apply keep_alloc) | exact HK.out))) : w.heap.size ≤ gb134)); have n5_ := Aside0.mk ((Nat.le_trans HW0.out (by rw [hg]; exact (keep_size (w := w) (g := g) (row := none) (by repeat (first | (with_reducible first | exact HK.out | apply KeepBut.set_ | apply keep_drewN | apply keep_drew | apply keep_alloc) | exact HK.out))) : w.heap.size ≤ gb134) : w0.heap.size ≤ gb134)); have n6_ := Aside0.mk ((by rw [hg]; exact Nat.ne_of_lt (IsS54.lt (show IsS54 w0 _ g s0_0 s0_1 from by repeat (first | (with_reducible first | exact HI0.out | apply IsS54.alloc | apply IsS54.drewN | apply IsS54.drew | apply IsS54.set_1) | exact HI0.out))) : g ≠ gb134)); have n7_ := Aside0.mk ((by rw [hg]; exact Nat.ne_of_gt (IsS54.lt (show IsS54 w0 _ g s0_0 s0_1 from by repeat (first | (with_reducible first | exact HI0.out | apply IsS54.alloc | apply IsS54.drewN | apply IsS54.drew | apply IsS54.set_1) | exact HI0.out))) : gb134 ≠ g)); clear HI0; clear HK; clear HB; have HI0 := n0_; have HK := n1_; have HB := n2_; have BK134 := n3_; have GW134 := n4_; have GE134 := n5_; have NB0_134 := n6_; have NB134_0 := n7_; clear n0_ n1_ n2_ n3_ n4_ n5_ n6_ n7_; clear hb hbox hg) | ((with_reducible refine gate_callee (f := 13) rfl ?_); refine goesL_ (some 6) rfl rfl Try.func13 (by kernel_rfl) rfl #[.pointer (some ⟨g, 0, none⟩), .int .i64 3] rfl (by (try simp only [List.map_toArray, List.map_cons, List.map_nil]); first | done | rfl | (simp only [List.length_drop, List.length_take]; rfl)) ?_; (with_reducible refine (keyeventkit_Dice_Next.calls g s0_0 s0_1 3 t135 t136 w0 _ ?side1 ?side2 A2.out).mono ?_); (case side1 => repeat (first | (with_reducible first | exact HI0.out | apply IsS54.alloc | apply IsS54.drewN | apply IsS54.drew | apply IsS54.set_1 | refine IsS54.far ?_ NB0_134.out _) | exact HI0.out)); (case side2 => repeat (first | (with_reducible first | exact HB.out | apply below_alloc | apply pw_below_drewN | apply below_drew1 | refine below_set ?_ (IsS54.ge HI0.out) | refine below_set ?_ GE134.out) | exact HB.out)); rintro e w5 ⟨rfl, hi, hb, hk⟩; refine ⟨_, rfl, ?_⟩; have n0_ := Aside0.mk (KeepBut.blk hk (g' := gb134) (o := .cells #[.int .i64 0, .slice none 0 0] 29 (0, 0)) (by (with_reducible repeat (first | refine blk_drewN ?_ _ | refine blk_drew ?_ | refine blk_alloc ?_ _)); exact BK134.out) NB134_0.out (by simp)); have n1_ := Aside0.mk (KeepBut.trans (by repeat (first | (with_reducible first | exact HK.out | apply KeepBut.set_ | apply keep_drewN | apply keep_drew | apply keep_alloc | refine keep_far ?_ GW134.out _) | exact HK.out)) hk (.inl rfl)); have n2_ := Aside0.mk (hb); have n3_ := Aside0.mk (hi); clear BK134; clear HK; clear HB; clear HI0; have BK134 := n0_; have HK := n1_; have HB := n2_; have HI0 := n3_; clear n0_ n1_ n2_ n3_; (try clear hb); (try clear hb2); (try clear hk); (try clear hi)) | ((with_reducible refine gate_dst (N := 3) rfl ?_); refine box_event ?hg (N := 3) ?hd (cs := #[.int .i64 0, .slice none 0 0]) (t := 29) ?hr ?_; (case hd => rfl); (case hg => rfl); (case hr => first | (go_simp; done) | (go_simp; rfl)); intro gb137 hg w6 hbox hb; have n0_ := Aside0.mk (IsS54.below (by repeat (first | (with_reducible first | exact HI0.out | apply IsS54.alloc | apply IsS54.drewN | apply IsS54.drew | apply IsS54.set_1 | refine IsS54.far ?_ NB0_134.out _) | exact HI0.out)) hb); have n1_ := Aside0.mk (blk_below (g := gb134) (o := .cells #[.int .i64 0, .slice none 0 0] 29 (0, 0)) (by (with_reducible repeat (first | refine blk_drewN ?_ _ | refine blk_drew ?_ | refine blk_alloc ?_ _)); exact BK134.out) hb); have n2_ := Aside0.mk (KeepBut.trans (by repeat (first | (with_reducible first | exact HK.out | apply KeepBut.set_ | apply keep_drewN | apply keep_drew | apply keep_alloc | refine keep_far ?_ GW134.out _) | exact HK.out)) (KeepBut.of_below hb g none) (.inl rfl)); have n3_ := Aside0.mk (below_step (by repeat (first | (with_reducible first | exact HB.out | apply below_alloc | apply pw_below_drewN | apply below_drew1 | refine below_set ?_ (IsS54.ge HI0.out) | refine below_set ?_ GE134.out) | exact HB.out)) hb); have n4_ := Aside0.mk (hbox); have n5_ := Aside0.mk ((by rw [hg]; exact (keep_size (w := w) (g := g) (row := none) (by repeat (first | (with_reducible first | exact HK.out | apply KeepBut.set_ | apply keep_drewN | apply keep_drew | apply keep_alloc | refine keep_far ?_ GW134.out _) | exact HK.out))) : w.heap.size ≤ gb137)); have n6_ := Aside0.mk ((Nat.le_trans HW0.out (by rw [hg]; exact (keep_size (w := w) (g := g) (row := none) (by repeat (first | (with_reducible first | exact HK.out | apply KeepBut.set_ | apply keep_drewN | apply keep_drew | apply keep_alloc | refine keep_far ?_ GW134.out _) | exact HK.out))) : w.heap.size ≤ gb137) : w0.heap.size ≤ gb137)); have n7_ := Aside0.mk ((by rw [hg]; exact Nat.ne_of_lt (blk_lt (g := gb134) (o := .cells #[.int .i64 0, .slice none 0 0] 29 (0, 0)) (by (with_reducible repeat (first | refine blk_drewN ?_ _ | refine blk_drew ?_ | refine blk_alloc ?_ _)); exact BK134.out)) : gb134 ≠ gb137)); have n8_ := Aside0.mk ((by rw [hg]; exact Nat.ne_of_gt (blk_lt (g := gb134) (o := .cells #[.int .i64 0, .slice none 0 0] 29 (0, 0)) (by (with_reducible repeat (first | refine blk_drewN ?_ _ | refine blk_drew ?_ | refine blk_alloc ?_ _)); exact BK134.out)) : gb137 ≠ gb134)); have n9_ := Aside0.mk ((by rw [hg]; exact Nat.ne_of_lt (IsS54.lt (show IsS54 w0 _ g s0_0 t136 from by repeat (first | (with_reducible first | exact HI0.out | apply IsS54.alloc | apply IsS54.drewN | apply IsS54.drew | apply IsS54.set_1 | refine IsS54.far ?_ NB0_134.out _) | exact HI0.out))) : g ≠ gb137)); have n10_ := Aside0.mk ((by rw [hg]; exact Nat.ne_of_gt (IsS54.lt (show IsS54 w0 _ g s0_0 t136 from by repeat (first | (with_reducible first | exact HI0.out | apply IsS54.alloc | apply IsS54.drewN | apply IsS54.drew | apply IsS54.set_1 | refine IsS54.far ?_ NB0_134.out _) | exact HI0.out))) : gb137 ≠ g)); clear HI0; clear BK134; clear HK; clear HB; have HI0 := n0_; have BK134 := n1_; have HK := n2_; have HB := n3_; have BK137 := n4_; have GW137 := n5_; have GE137 := n6_; have NB134_137 := n7_; have NB137_134 := n8_; have NB0_137 := n9_; have NB137_0 := n10_; clear n0_ n1_ n2_ n3_ n4_ n5_ n6_ n7_ n8_ n9_ n10_; clear hb hbox hg; have hnb7 := NB137_134.out; have hnc7 := NB134_137.out; have hnb8 := NB137_0.out; have hnc8 := NB0_137.out; have hcz9_0 : w6.cell? ⟨gb137, 0, none⟩ = some (.int .i64 0) := (blk_cell BK137.out 0).trans rfl; have hcz9_1 : w6.cell? ⟨gb137, 1, none⟩ = some (.slice none 0 0) := (blk_cell BK137.out 1).trans rfl; have hfz9_0 := blk_frozen BK137.out 0; have hfz9_1 := blk_frozen BK137.out 1) | ((with_reducible refine gate_callee (f := 13) rfl ?_); refine goesL_ (some 10) rfl rfl Try.func13 (by kernel_rfl) rfl #[.pointer (some ⟨g, 0, none⟩), .int .i64 6] rfl (by (try simp only [List.map_toArray, List.map_cons, List.map_nil]); first | done | rfl | (simp only [List.length_drop, List.length_take]; rfl)) ?_; (with_reducible refine (keyeventkit_Dice_Next.calls g s0_0 t136 6 t138 t139 w0 _ ?side1 ?side2 A3.out).mono ?_); (case side1 => repeat (first | (with_reducible first | exact HI0.out | apply IsS54.alloc | apply IsS54.drewN | apply IsS54.drew | apply IsS54.set_1 | refine IsS54.far ?_ NB0_134.out _ | refine IsS54.far ?_ NB0_137.out _) | exact HI0.out)); (case side2 => repeat (first | (with_reducible first | exact HB.out | apply below_alloc | apply pw_below_drewN | apply below_drew1 | refine below_set ?_ (IsS54.ge HI0.out) | refine below_set ?_ GE134.out | refine below_set ?_ GE137.out) | exact HB.out)); rintro e w10 ⟨rfl, hi, hb, hk⟩; refine ⟨_, rfl, ?_⟩; have n0_ := Aside0.mk (KeepBut.blk hk (g' := gb134) (o := .cells #[.int .i64 0, .slice none 0 0] 29 (0, 0)) (by (with_reducible repeat (first | refine blk_drewN ?_ _ | refine blk_drew ?_ | refine blk_alloc ?_ _)); refine blk_far ?_ NB134_137.out _; (with_reducible repeat (first | refine blk_drewN ?_ _ | refine blk_drew ?_ | refine blk_alloc ?_ _)); refine blk_far ?_ NB134_137.out _; (with_reducible repeat (first | refine blk_drewN ?_ _ | refine blk_drew ?_ | refine blk_alloc ?_ _)); exact BK134.out) NB134_0.out (by simp)); have n1_ := Aside0.mk (KeepBut.blk hk (g' := gb137) (o := .cells #[.int .i64 (wrap64 (1 + t135)), .slice none 0 0] 29 (0, 0)) (by (with_reducible repeat (first | refine blk_drewN ?_ _ | refine blk_drew ?_ | refine blk_alloc ?_ _)); refine blk_put (cs := #[.int .i64 (wrap64 (1 + t135)), .slice none 0 0]) ?_ 1 _ rfl; (with_reducible repeat (first | refine blk_drewN ?_ _ | refine blk_drew ?_ | refine blk_alloc ?_ _)); refine blk_put (cs := #[.int .i64 0, .slice none 0 0]) ?_ 0 _ rfl; (with_reducible repeat (first | refine blk_drewN ?_ _ | refine blk_drew ?_ | refine blk_alloc ?_ _)); exact BK137.out) NB137_0.out (by simp)); have n2_ := Aside0.mk (KeepBut.trans (by repeat (first | (with_reducible first | exact HK.out | apply KeepBut.set_ | apply keep_drewN | apply keep_drew | apply keep_alloc | refine keep_far ?_ GW134.out _ | refine keep_far ?_ GW137.out _) | exact HK.out)) hk (.inl rfl)); have n3_ := Aside0.mk (hb); have n4_ := Aside0.mk (hi); clear BK134; clear BK137; clear HK; clear HB; clear HI0; have BK134 := n0_; have BK137 := n1_; have HK := n2_; have HB := n3_; have HI0 := n4_; clear n0_ n1_ n2_ n3_ n4_; (try clear hb); (try clear hb2); (try clear hk); (try clear hi)))
  go_loopg [4] k (fun kq v4 w' => ∃ (x4_1 : Int) (x1001_1 : Int) (x138001_1 : List (S39)) (u138001 : Value), v4 = .int .i64 x4_1 ∧ Aside0 (keyeventplay_Packets.l0 kq x4_1 s0_0 x1001_1 (wrap64 (1 + t135)) x138001_1 = some (r1, r2, r3)) ∧ Aside0 (kq ≤ k) ∧ Aside0 (Kd.R k39 39 w' w.heap.size (fun _ => True) u138001 x138001_1) ∧ Aside0 (w'.heap[gb134]? = some (.cells #[.int .i64 0, (.slice none 0 0)] 29 (0, 0))) ∧ Aside0 (w'.heap[gb137]? = some (.cells #[.int .i64 (wrap64 (1 + t135)), u138001] 29 (0, 0))) ∧ Aside0 (IsS54 w0 w' g s0_0 x1001_1) ∧ Aside0 (KeepBut w w' g none) ∧ Aside0 (Below w0.heap.size w0 w'))
  case atStart => exact ⟨(t138), (t139), (([] : List (S39))), (.slice none 0 0), (by first | rfl | (simp; done) | (simp [*]; done)), H', ⟨Nat.le_refl _⟩, ⟨by first | exact Kd.R_nil _ _ _ _ _ | exact Kd.N_nil _ _ _ _ _ | exact Kd.V_nil _ _ _ _ _ | exact Kd.Q_nil _ _ _ _ _ | exact Kd.S_nil _ _ _ _ _⟩, ⟨by (with_reducible repeat (first | refine blk_drewN ?_ _ | refine blk_drew ?_ | refine blk_alloc ?_ _)); exact BK134.out⟩, ⟨by (with_reducible repeat (first | refine blk_drewN ?_ _ | refine blk_drew ?_ | refine blk_alloc ?_ _)); exact BK137.out⟩, ⟨by repeat (first | (with_reducible first | exact HI0.out | apply IsS54.alloc | apply IsS54.drewN | apply IsS54.drew | apply IsS54.set_1 | refine IsS54.far ?_ NB0_134.out _ | refine IsS54.far ?_ NB0_137.out _) | exact HI0.out)⟩, ⟨by repeat (first | (with_reducible first | exact HK.out | apply KeepBut.set_ | apply keep_drewN | apply keep_drew | apply keep_alloc | refine keep_far ?_ GW134.out _ | refine keep_far ?_ GW137.out _) | exact HK.out)⟩, ⟨by repeat (first | (with_reducible first | exact HB.out | apply below_alloc | apply pw_below_drewN | apply below_drew1 | refine below_set ?_ (IsS54.ge HI0.out) | refine below_set ?_ GE134.out | refine below_set ?_ GE137.out) | exact HB.out)⟩⟩
  case round =>
    clear H'
    try clear c1
    try clear p2
    try clear p6
    try clear c7
    try clear c8
    try clear c10
    try clear hcz9_0
    try clear hcz9_1
    try clear hfz9_0
    try clear hfz9_1
    obtain ⟨x4_1, x1001_1, x138001_1, u138001, rfl, HA, HK1, HO_138001, BK134, BK137, HI0, HK, HB⟩ := hrel
    cases gk with
    | zero => exact absurd HA.out (by simp [keyeventplay_Packets.l0])
    | succ k1 =>
      have H := HA.out
      clear HA
      simp only [keyeventplay_Packets.l0] at H
      by_cases c11 : x4_1 > 0
      · rw [if_pos c11] at H
        have c11b0 : decide (0 < x4_1) = true := decide_eq_true c11
        clear c11
        replace H := Option.bind_eq_some_iff.mp H
        obtain ⟨⟨t140, t141⟩, A120, H⟩ := H
        replace H : ((keyeventkit_Dice_Next.f s0_0 t141 (wrap64 (1 + t135))).bind fun bt142 => ((keyeventkit_Dice_Word.f s0_0 bt142.2 (([(⟨#[]⟩ : ByteArray), (⟨#[97]⟩ : ByteArray), (⟨#[98, 114, 105, 100, 103, 101]⟩ : ByteArray), (⟨#[109, 105, 108, 108, 32, 97, 110, 100, 32, 102, 111, 114, 100]⟩ : ByteArray)] : List ByteArray))).bind fun bt147 => (if x138001_1.length < 4398046511104 then (keyeventplay_Packets.l0 k1 (wrap64 (x4_1 - 1)) s0_0 bt147.2 (wrap64 (1 + t135)) (x138001_1 ++ [(⟨t140, bt142.1, bt147.1⟩ : S39)])) else (none)))) = some (r1, r2, r3) := H
        have A12 := Aside0.mk A120
        clear A120
        replace H := Option.bind_eq_some_iff.mp H
        obtain ⟨⟨t142, t143⟩, A130, H⟩ := H
        replace H : ((keyeventkit_Dice_Word.f s0_0 t143 (([(⟨#[]⟩ : ByteArray), (⟨#[97]⟩ : ByteArray), (⟨#[98, 114, 105, 100, 103, 101]⟩ : ByteArray), (⟨#[109, 105, 108, 108, 32, 97, 110, 100, 32, 102, 111, 114, 100]⟩ : ByteArray)] : List ByteArray))).bind fun bt147 => (if x138001_1.length < 4398046511104 then (keyeventplay_Packets.l0 k1 (wrap64 (x4_1 - 1)) s0_0 bt147.2 (wrap64 (1 + t135)) (x138001_1 ++ [(⟨t140, t142, bt147.1⟩ : S39)])) else (none))) = some (r1, r2, r3) := H
        have A13 := Aside0.mk A130
        clear A130
        obtain ⟨y144, hy144⟩ : ∃ y_ : List ByteArray, y_ = (([(⟨#[]⟩ : ByteArray), (⟨#[97]⟩ : ByteArray), (⟨#[98, 114, 105, 100, 103, 101]⟩ : ByteArray), (⟨#[109, 105, 108, 108, 32, 97, 110, 100, 32, 102, 111, 114, 100]⟩ : ByteArray)] : List ByteArray)) := ⟨_, rfl⟩
        replace H : ((keyeventkit_Dice_Word.f s0_0 t143 y144).bind fun bt147 => (if x138001_1.length < 4398046511104 then (keyeventplay_Packets.l0 k1 (wrap64 (x4_1 - 1)) s0_0 bt147.2 (wrap64 (1 + t135)) (x138001_1 ++ [(⟨t140, t142, bt147.1⟩ : S39)])) else (none))) = some (r1, r2, r3) := by first | (rw [hy144]; with_reducible exact H) | (have H2_ := (Option.bind_some _ _).symm.trans H; rw [hy144]; with_reducible exact H2_) | (have H2_ := (Option.bind_some _ _).symm.trans H; with_reducible exact H2_) | with_reducible exact H | (rw [hy144]; exact H) | exact H
        have Ny144 := Aside0.mk hy144
        clear hy144
        replace H := Option.bind_eq_some_iff.mp H
        obtain ⟨⟨t147, t148⟩, A140, H⟩ := H
        replace H : (if x138001_1.length < 4398046511104 then (keyeventplay_Packets.l0 k1 (wrap64 (x4_1 - 1)) s0_0 t148 (wrap64 (1 + t135)) (x138001_1 ++ [(⟨t140, t142, t147⟩ : S39)])) else (none)) = some (r1, r2, r3) := H
        have A14 := Aside0.mk A140
        clear A140
        by_cases c15 : x138001_1.length < 4398046511104
        · rw [if_pos c15] at H
          have LMc15 := Aside0.mk c15
          clear c15
          obtain ⟨y149, hy149⟩ : ∃ y_ : List (S39), y_ = (x138001_1 ++ [(⟨t140, t142, t147⟩ : S39)]) := ⟨_, rfl⟩
          replace H : (keyeventplay_Packets.l0 k1 (wrap64 (x4_1 - 1)) s0_0 t148 (wrap64 (1 + t135)) y149) = some (r1, r2, r3) := by first | (rw [hy149]; with_reducible exact H) | (have H2_ := (Option.bind_some _ _).symm.trans H; rw [hy149]; with_reducible exact H2_) | (have H2_ := (Option.bind_some _ _).symm.trans H; with_reducible exact H2_) | with_reducible exact H | (rw [hy149]; exact H) | exact H
          have Ny149 := Aside0.mk hy149
          clear hy149
          have H' := Aside0.mk H
          clear H
          obtain ⟨Ao16, co16, eo16⟩ := Kd.R_slice HO_138001.out
          subst eo16
          try go_wp2
          have n0_ := Aside0.mk (Kd.R_drew HO_138001.out)
          have n1_ := Aside0.mk (blk_drew BK134.out)
          have n2_ := Aside0.mk (blk_drew BK137.out)
          have n3_ := Aside0.mk (IsS54.drew HI0.out)
          have n4_ := Aside0.mk (keep_drew HK.out)
          have n5_ := Aside0.mk (below_drew1 HB.out)
          clear HO_138001
          clear BK134
          clear BK137
          clear HI0
          clear HK
          clear HB
          have HO_138001 := n0_
          have BK134 := n1_
          have BK137 := n2_
          have HI0 := n3_
          have HK := n4_
          have HB := n5_
          clear n0_ n1_ n2_ n3_ n4_ n5_
          refine start_ (n := 18) (S := fun w' => w'.cell? ⟨gb137, 0, none⟩ = some (.int .i64 (wrap64 (1 + t135))) ∧ w'.cell? ⟨gb137, 1, none⟩ = some (.slice Ao16 x138001_1.length co16)) (ds := [17]) #[false, false, false, false, false, false, false, false, false, false, false, false, false, false, false, false, false, false] (by kernel_rfl) rfl rfl ⟨(blk_cell BK137.out 0).trans rfl, (blk_cell BK137.out 1).trans rfl⟩ (fun hHeld => ?_); refine with_tabW keyeventplay_Packets.tab5 keyeventplay_Packets.bits5 (fun HT_ HW_ => ?_)
          generalize wr.drew = w17 at HO_138001 BK134 BK137 HI0 HK HB hHeld ⊢
          refine pure_ (i := 0) (N := some 15) (v := ?_) (a' := ?_) #[true, false, false, false, false, false, false, false, false, false, false, false, false, false, false, false, false, false] rfl rfl (any_of HT_.out (by kernel_rfl)) (fun _ _ _ h => h) (Or.inl ⟨by rfl, ?_⟩) ?_ ?_
          rotate_left
          · intro w'
            go_simp
            with_reducible rfl
          rotate_left
          · simp only [Act.put, List.setIfInBounds_toArray, List.set_cons_zero, List.set_cons_succ, i64_w, i32_w]
            rfl
          refine pure_ (i := 2) (N := some 17) (v := ?_) (a' := ?_) #[true, false, true, false, false, false, false, false, false, false, false, false, false, false, false, false, false, false] rfl rfl (any_of HT_.out (by kernel_rfl)) (fun _ _ _ h => h) (Or.inl ⟨by rfl, ?_⟩) ?_ ?_
          rotate_left
          · intro w'
            go_simp
            with_reducible rfl
          rotate_left
          · simp only [Act.put, List.setIfInBounds_toArray, List.set_cons_zero, List.set_cons_succ, i64_w, i32_w]
            rfl
          refine pure_ (i := 3) (N := some 18) (v := ?_) (a' := ?_) #[true, false, true, true, false, false, false, false, false, false, false, false, false, false, false, false, false, false] rfl rfl (any_of HT_.out (by kernel_rfl)) (fun _ _ _ h => h) (Or.inl ⟨by rfl, ?_⟩) ?_ ?_
          rotate_left
          · intro w'
            go_simp
            with_reducible rfl
          rotate_left
          · simp only [Act.put, List.setIfInBounds_toArray, List.set_cons_zero, List.set_cons_succ, i64_w, i32_w]
            rfl
          refine pure_ (i := 6) (N := some 21) (v := ?_) (a' := ?_) #[true, false, true, true, false, false, true, false, false, false, false, false, false, false, false, false, false, false] rfl rfl (any_of HT_.out (by kernel_rfl)) (fun _ _ _ h => h) (Or.inl ⟨by rfl, ?_⟩) ?_ ?_
          rotate_left
          · intro w'
            go_simp
            with_reducible rfl
          rotate_left
          · simp only [Act.put, List.setIfInBounds_toArray, List.set_cons_zero, List.set_cons_succ, i64_w, i32_w]
            rfl
          refine pure_ (i := 7) (N := some 22) (v := ?_) (a' := ?_) #[true, false, true, true, false, false, true, true, false, false, false, false, false, false, false, false, false, false] rfl rfl (any_of HT_.out (by kernel_rfl)) (fun _ _ _ h => h) (Or.inl ⟨by rfl, ?_⟩) ?_ ?_
          rotate_left
          · intro w'
            go_simp
            with_reducible rfl
          rotate_left
          · simp only [Act.put, List.setIfInBounds_toArray, List.set_cons_zero, List.set_cons_succ, i64_w, i32_w]
            rfl
          refine pure_ (i := 10) (N := some 25) (v := ?_) (a' := ?_) #[true, false, true, true, false, false, true, true, false, false, true, false, false, false, false, false, false, false] rfl rfl (any_of HT_.out (by kernel_rfl)) (fun _ _ _ h => h) (Or.inl ⟨by rfl, ?_⟩) ?_ ?_
          rotate_left
          · intro w'
            go_simp
            with_reducible rfl
          rotate_left
          · simp only [Act.put, List.setIfInBounds_toArray, List.set_cons_zero, List.set_cons_succ, i64_w, i32_w]
            rfl
          refine take_ (i := 1) (N := some 16) (v := ?_) (a' := ?_) #[true, true, true, true, false, false, true, true, false, false, true, false, false, false, false, false, false, false] rfl rfl (take_ofW HT_.out HW_.out (by kernel_rfl)) (fun _ _ _ h => h) (Or.inl ⟨by rfl, ?_⟩) hHeld ?_ ?_
          rotate_left
          · rintro w' ⟨s0, s1⟩
            go_simp
            with_reducible rfl
          rotate_left
          · simp only [Act.put, List.setIfInBounds_toArray, List.set_cons_zero, List.set_cons_succ, i64_w, i32_w]
            rfl
          refine take_ (i := 4) (N := some 19) (v := ?_) (a' := ?_) #[true, true, true, true, true, false, true, true, false, false, true, false, false, false, false, false, false, false] rfl rfl (take_ofW HT_.out HW_.out (by kernel_rfl)) (fun _ _ _ h => h) (Or.inl ⟨by rfl, ?_⟩) hHeld ?_ ?_
          rotate_left
          · rintro w' ⟨s0, s1⟩
            go_simp
            with_reducible rfl
          rotate_left
          · simp only [Act.put, List.setIfInBounds_toArray, List.set_cons_zero, List.set_cons_succ, i64_w, i32_w]
            rfl
          refine take_ (i := 8) (N := some 23) (v := ?_) (a' := ?_) #[true, true, true, true, true, false, true, true, true, false, true, false, false, false, false, false, false, false] rfl rfl (take_ofW HT_.out HW_.out (by kernel_rfl)) (fun _ _ _ h => h) (Or.inl ⟨by rfl, ?_⟩) hHeld ?_ ?_
          rotate_left
          · rintro w' ⟨s0, s1⟩
            go_simp
            with_reducible rfl
          rotate_left
          · simp only [Act.put, List.setIfInBounds_toArray, List.set_cons_zero, List.set_cons_succ, i64_w, i32_w]
            rfl
          refine join_ (σ := Value) 6 #[true, true, true, true, true, true, true, true, true, true, true, true, false, false, false, false, false, false] (fun s_ => [(20, .int .i64 t140), (24, .int .i64 t142), (26, s_)]) (fun s_ w' => (w'.cell? ⟨gb137, 0, none⟩ = some (.int .i64 (wrap64 (1 + t135))) ∧ w'.cell? ⟨gb137, 1, none⟩ = some (.slice Ao16 x138001_1.length co16)) ∧ (Kd.R Kd.string 9 w' w.heap.size (fun _ => True) s_ y144) ∧ (Kd.R k39 39 w' w.heap.size (fun _ => True) (.slice Ao16 x138001_1.length co16) x138001_1) ∧ (w'.heap[gb134]? = some (.cells #[.int .i64 0, .slice none 0 0] 29 (0, 0))) ∧ (w'.heap[gb137]? = some (.cells #[.int .i64 (wrap64 (1 + t135)), .slice Ao16 x138001_1.length co16] 29 (0, 0))) ∧ (IsS54 w0 w' g s0_0 t143) ∧ (KeepBut w w' g none) ∧ (Below w0.heap.size w0 w')) ?_ ?_
          rotate_left
          · intro hCont
            refine two_ (i := 5) (j := 11) (Ni := some 20) (Nj := some 26) #[true, true, true, true, true, true, true, true, true, false, true, false, false, false, false, false, false, false] #[true, true, true, true, true, false, true, true, true, false, true, true, false, false, false, false, false, false] rfl rfl rfl rfl (two_of HT_.out (by kernel_rfl)) (by decide) (by decide) (fun K hK => ?_) (fun K hK => ?_)
            · skip
              refine goes_ Try.func13 (by kernel_rfl) rfl #[.pointer (some ⟨g, 0, none⟩), .int .i64 (wrap64 (1 + t135))] (by rfl) rfl rfl (by (try simp only [List.map_toArray, List.map_cons, List.map_nil]); first | done | rfl | (simp only [List.length_drop, List.length_take]; rfl)) ?_
              with_reducible refine (keyeventkit_Dice_Next.calls g s0_0 x1001_1 (wrap64 (1 + t135)) t140 t141 w0 _ ?side1 ?side2 A12.out).mono ?_
              (case side1 => repeat (first | (with_reducible first | exact HI0.out | apply IsS54.alloc | apply IsS54.drewN | apply IsS54.drew | apply IsS54.set_1 | refine IsS54.far ?_ NB0_134.out _ | refine IsS54.far ?_ NB0_137.out _) | exact HI0.out))
              (case side2 => repeat (first | (with_reducible first | exact HB.out | apply below_alloc | apply pw_below_drewN | apply below_drew1 | refine below_set ?_ (IsS54.ge HI0.out) | refine below_set ?_ GE134.out | refine below_set ?_ GE137.out) | exact HB.out))
              rintro e w18 ⟨rfl, hi, hb, hk⟩
              refine ⟨_, rfl, ?_⟩
              have n0_ := Aside0.mk (Kd.R_mono (Kd.R_keep (IsS54.apart (show IsS54 w0 _ g s0_0 x1001_1 from by repeat (first | (with_reducible first | exact HI0.out | apply IsS54.alloc | apply IsS54.drewN | apply IsS54.drew | apply IsS54.set_1 | refine IsS54.far ?_ NB0_134.out _ | refine IsS54.far ?_ NB0_137.out _) | exact HI0.out)) (by (with_reducible repeat (first | apply Kd.R_alloc | apply Kd.R_drewN | apply Kd.R_drew)); exact HO_138001.out) (by decide)) hk (fun _ h => h.2)) (fun _ h => h.1))
              have n1_ := Aside0.mk (KeepBut.blk hk (g' := gb134) (o := .cells #[.int .i64 0, .slice none 0 0] 29 (0, 0)) (by (with_reducible repeat (first | refine blk_drewN ?_ _ | refine blk_drew ?_ | refine blk_alloc ?_ _)); exact BK134.out) NB134_0.out (by simp))
              have n2_ := Aside0.mk (KeepBut.blk hk (g' := gb137) (o := .cells #[.int .i64 (wrap64 (1 + t135)), .slice Ao16 x138001_1.length co16] 29 (0, 0)) (by (with_reducible repeat (first | refine blk_drewN ?_ _ | refine blk_drew ?_ | refine blk_alloc ?_ _)); exact BK137.out) NB137_0.out (by simp))
              have n3_ := Aside0.mk (KeepBut.trans (by repeat (first | (with_reducible first | exact HK.out | apply KeepBut.set_ | apply keep_drewN | apply keep_drew | apply keep_alloc | refine keep_far ?_ GW134.out _ | refine keep_far ?_ GW137.out _) | exact HK.out)) hk (.inl rfl))
              have n4_ := Aside0.mk (hb)
              have n5_ := Aside0.mk (hi)
              clear HO_138001
              clear BK134
              clear BK137
              clear HK
              clear HB
              clear HI0
              have HO_138001 := n0_
              have BK134 := n1_
              have BK137 := n2_
              have HK := n3_
              have HB := n4_
              have HI0 := n5_
              clear n0_ n1_ n2_ n3_ n4_ n5_
              (try clear hb)
              (try clear hb2)
              (try clear hk)
              (try clear hi)
              refine hK.out _ _ ⟨(blk_cell BK137.out 0).trans rfl, (blk_cell BK137.out 1).trans rfl⟩ (fun hHeld => ?_)
              clear hK K
              refine norm_ (a' := ?_) ?_ ?_
              rotate_left
              · show Act.put _ (some 20) _ = _
                simp only [Act.put, List.setIfInBounds_toArray, List.set_cons_zero, List.set_cons_succ, i64_w, i32_w]
                rfl
              refine two_ (i := 9) (j := 11) (Ni := some 24) (Nj := some 26) #[true, true, true, true, true, true, true, true, true, true, true, false, false, false, false, false, false, false] #[true, true, true, true, true, true, true, true, true, false, true, true, false, false, false, false, false, false] rfl rfl rfl rfl (two_of HT_.out (by kernel_rfl)) (by decide) (by decide) (fun K hK => ?_) (fun K hK => ?_)
              · skip
                refine goes_ Try.func13 (by kernel_rfl) rfl #[.pointer (some ⟨g, 0, none⟩), .int .i64 (wrap64 (1 + t135))] (by rfl) rfl rfl (by (try simp only [List.map_toArray, List.map_cons, List.map_nil]); first | done | rfl | (simp only [List.length_drop, List.length_take]; rfl)) ?_
                with_reducible refine (keyeventkit_Dice_Next.calls g s0_0 t141 (wrap64 (1 + t135)) t142 t143 w0 _ ?side1 ?side2 A13.out).mono ?_
                (case side1 => repeat (first | (with_reducible first | exact HI0.out | apply IsS54.alloc | apply IsS54.drewN | apply IsS54.drew | apply IsS54.set_1 | refine IsS54.far ?_ NB0_134.out _ | refine IsS54.far ?_ NB0_137.out _) | exact HI0.out))
                (case side2 => repeat (first | (with_reducible first | exact HB.out | apply below_alloc | apply pw_below_drewN | apply below_drew1 | refine below_set ?_ (IsS54.ge HI0.out) | refine below_set ?_ GE134.out | refine below_set ?_ GE137.out) | exact HB.out))
                rintro e w19 ⟨rfl, hi, hb, hk⟩
                refine ⟨_, rfl, ?_⟩
                have n0_ := Aside0.mk (Kd.R_mono (Kd.R_keep (IsS54.apart (show IsS54 w0 _ g s0_0 t141 from by repeat (first | (with_reducible first | exact HI0.out | apply IsS54.alloc | apply IsS54.drewN | apply IsS54.drew | apply IsS54.set_1 | refine IsS54.far ?_ NB0_134.out _ | refine IsS54.far ?_ NB0_137.out _) | exact HI0.out)) (by (with_reducible repeat (first | apply Kd.R_alloc | apply Kd.R_drewN | apply Kd.R_drew)); exact HO_138001.out) (by decide)) hk (fun _ h => h.2)) (fun _ h => h.1))
                have n1_ := Aside0.mk (KeepBut.blk hk (g' := gb134) (o := .cells #[.int .i64 0, .slice none 0 0] 29 (0, 0)) (by (with_reducible repeat (first | refine blk_drewN ?_ _ | refine blk_drew ?_ | refine blk_alloc ?_ _)); exact BK134.out) NB134_0.out (by simp))
                have n2_ := Aside0.mk (KeepBut.blk hk (g' := gb137) (o := .cells #[.int .i64 (wrap64 (1 + t135)), .slice Ao16 x138001_1.length co16] 29 (0, 0)) (by (with_reducible repeat (first | refine blk_drewN ?_ _ | refine blk_drew ?_ | refine blk_alloc ?_ _)); exact BK137.out) NB137_0.out (by simp))
                have n3_ := Aside0.mk (KeepBut.trans (by repeat (first | (with_reducible first | exact HK.out | apply KeepBut.set_ | apply keep_drewN | apply keep_drew | apply keep_alloc | refine keep_far ?_ GW134.out _ | refine keep_far ?_ GW137.out _) | exact HK.out)) hk (.inl rfl))
                have n4_ := Aside0.mk (hb)
                have n5_ := Aside0.mk (hi)
                clear HO_138001
                clear BK134
                clear BK137
                clear HK
                clear HB
                clear HI0
                have HO_138001 := n0_
                have BK134 := n1_
                have BK137 := n2_
                have HK := n3_
                have HB := n4_
                have HI0 := n5_
                clear n0_ n1_ n2_ n3_ n4_ n5_
                (try clear hb)
                (try clear hb2)
                (try clear hk)
                (try clear hi)
                refine hK.out _ _ ⟨(blk_cell BK137.out 0).trans rfl, (blk_cell BK137.out 1).trans rfl⟩ (fun hHeld => ?_)
                clear hK K
                refine norm_ (a' := ?_) ?_ ?_
                rotate_left
                · show Act.put _ (some 24) _ = _
                  simp only [Act.put, List.setIfInBounds_toArray, List.set_cons_zero, List.set_cons_succ, i64_w, i32_w]
                  rfl
                refine one_ (i := 11) (N := some 26) #[true, true, true, true, true, true, true, true, true, true, true, true, false, false, false, false, false, false] rfl rfl (one_of HT_.out (by kernel_rfl)) (by decide) (fun K hK => ?_)
                refine Kd.R_lit_step Kd.string _ 9 ?hg (N := 26) ?hd (xs := ([(⟨#[]⟩ : ByteArray), (⟨#[97]⟩ : ByteArray), (⟨#[98, 114, 105, 100, 103, 101]⟩ : ByteArray), (⟨#[109, 105, 108, 108, 32, 97, 110, 100, 32, 102, 111, 114, 100]⟩ : ByteArray)] : List ByteArray)) (inner := [.string (⟨#[]⟩ : ByteArray), .string (⟨#[97]⟩ : ByteArray), .string (⟨#[98, 114, 105, 100, 103, 101]⟩ : ByteArray), .string (⟨#[109, 105, 108, 108, 32, 97, 110, 100, 32, 102, 111, 114, 100]⟩ : ByteArray)]) (ok := fun _ => True) (okp := fun _ => True) ?hr ?hp (fun _ hk => hk) trivial (Below.refl _ _) (Nat.le_refl _) (by simp) ?_; (case hd => rfl); (case hg => rfl); (case hr => first | (go_simp; done) | (go_simp; rfl)); (case hp => exact (Reps.one (show Kd.M Kd.string _ _ _ (⟨#[]⟩ : ByteArray) [.string (⟨#[]⟩ : ByteArray)] from rfl) (Reps.one (show Kd.M Kd.string _ _ _ (⟨#[97]⟩ : ByteArray) [.string (⟨#[97]⟩ : ByteArray)] from rfl) (Reps.one (show Kd.M Kd.string _ _ _ (⟨#[98, 114, 105, 100, 103, 101]⟩ : ByteArray) [.string (⟨#[98, 114, 105, 100, 103, 101]⟩ : ByteArray)] from rfl) (Reps.one (show Kd.M Kd.string _ _ _ (⟨#[109, 105, 108, 108, 32, 97, 110, 100, 32, 102, 111, 114, 100]⟩ : ByteArray) [.string (⟨#[109, 105, 108, 108, 32, 97, 110, 100, 32, 102, 111, 114, 100]⟩ : ByteArray)] from rfl) (Reps.none _ _))))))
                intro v145 w20 ho21 hb hg_ hnew_
                clear hg_ hnew_
                (first | rw [← Ny144.out] at ho21 | (simp only [Int.reduceToNat] at ho21; rw [← Ny144.out] at ho21))
                have n0_ := Aside0.mk (Kd.R_below (by (with_reducible repeat (first | apply Kd.R_alloc | apply Kd.R_drewN | apply Kd.R_drew)); exact HO_138001.out) hb)
                have n1_ := Aside0.mk (Kd.R_lower ho21 (keep_size (w := w) (g := g) (row := none) (by repeat (first | (with_reducible first | exact HK.out | apply KeepBut.set_ | apply keep_drewN | apply keep_drew | apply keep_alloc | refine keep_far ?_ GW134.out _ | refine keep_far ?_ GW137.out _) | exact HK.out))))
                have n2_ := Aside0.mk (blk_below (g := gb134) (o := .cells #[.int .i64 0, .slice none 0 0] 29 (0, 0)) (by (with_reducible repeat (first | refine blk_drewN ?_ _ | refine blk_drew ?_ | refine blk_alloc ?_ _)); exact BK134.out) hb)
                have n3_ := Aside0.mk (blk_below (g := gb137) (o := .cells #[.int .i64 (wrap64 (1 + t135)), .slice Ao16 x138001_1.length co16] 29 (0, 0)) (by (with_reducible repeat (first | refine blk_drewN ?_ _ | refine blk_drew ?_ | refine blk_alloc ?_ _)); exact BK137.out) hb)
                have n4_ := Aside0.mk (IsS54.below (by repeat (first | (with_reducible first | exact HI0.out | apply IsS54.alloc | apply IsS54.drewN | apply IsS54.drew | apply IsS54.set_1 | refine IsS54.far ?_ NB0_134.out _ | refine IsS54.far ?_ NB0_137.out _) | exact HI0.out)) hb)
                have n5_ := Aside0.mk (KeepBut.trans (by repeat (first | (with_reducible first | exact HK.out | apply KeepBut.set_ | apply keep_drewN | apply keep_drew | apply keep_alloc | refine keep_far ?_ GW134.out _ | refine keep_far ?_ GW137.out _) | exact HK.out)) (KeepBut.of_below hb g none) (.inl rfl))
                have n6_ := Aside0.mk (below_step (by repeat (first | (with_reducible first | exact HB.out | apply below_alloc | apply pw_below_drewN | apply below_drew1 | refine below_set ?_ (IsS54.ge HI0.out) | refine below_set ?_ GE134.out | refine below_set ?_ GE137.out) | exact HB.out)) hb)
                clear HO_138001
                clear BK134
                clear BK137
                clear HI0
                clear HK
                clear HB
                have HO_138001 := n0_
                have HO146 := n1_
                have BK134 := n2_
                have BK137 := n3_
                have HI0 := n4_
                have HK := n5_
                have HB := n6_
                clear n0_ n1_ n2_ n3_ n4_ n5_ n6_
                clear hb ho21
                refine hK.out _ _ ⟨(blk_cell BK137.out 0).trans rfl, (blk_cell BK137.out 1).trans rfl⟩ (fun hHeld => ?_)
                clear hK K
                refine norm_ (a' := ?_) ?_ ?_
                rotate_left
                · show Act.put _ (some 26) _ = _
                  simp only [Act.put, List.setIfInBounds_toArray, List.set_cons_zero, List.set_cons_succ, i64_w, i32_w]
                  rfl
                exact norm_ (by simp only [putAll, Act.put, List.setIfInBounds_toArray, List.set_cons_zero, List.set_cons_succ]) (hCont (v145) _ ⟨hHeld, (by (with_reducible repeat (first | apply Kd.R_alloc | apply Kd.R_drewN | apply Kd.R_drew)); exact HO146.out), (by (with_reducible repeat (first | apply Kd.R_alloc | apply Kd.R_drewN | apply Kd.R_drew)); exact HO_138001.out), (by (with_reducible repeat (first | refine blk_drewN ?_ _ | refine blk_drew ?_ | refine blk_alloc ?_ _)); exact BK134.out), (by (with_reducible repeat (first | refine blk_drewN ?_ _ | refine blk_drew ?_ | refine blk_alloc ?_ _)); exact BK137.out), (by repeat (first | (with_reducible first | exact HI0.out | apply IsS54.alloc | apply IsS54.drewN | apply IsS54.drew | apply IsS54.set_1 | refine IsS54.far ?_ NB0_134.out _ | refine IsS54.far ?_ NB0_137.out _) | exact HI0.out)), (by repeat (first | (with_reducible first | exact HK.out | apply KeepBut.set_ | apply keep_drewN | apply keep_drew | apply keep_alloc | refine keep_far ?_ GW134.out _ | refine keep_far ?_ GW137.out _) | exact HK.out)), (by repeat (first | (with_reducible first | exact HB.out | apply below_alloc | apply pw_below_drewN | apply below_drew1 | refine below_set ?_ (IsS54.ge HI0.out) | refine below_set ?_ GE134.out | refine below_set ?_ GE137.out) | exact HB.out))⟩)
              · skip
                refine Kd.R_lit_step Kd.string _ 9 ?hg (N := 26) ?hd (xs := ([(⟨#[]⟩ : ByteArray), (⟨#[97]⟩ : ByteArray), (⟨#[98, 114, 105, 100, 103, 101]⟩ : ByteArray), (⟨#[109, 105, 108, 108, 32, 97, 110, 100, 32, 102, 111, 114, 100]⟩ : ByteArray)] : List ByteArray)) (inner := [.string (⟨#[]⟩ : ByteArray), .string (⟨#[97]⟩ : ByteArray), .string (⟨#[98, 114, 105, 100, 103, 101]⟩ : ByteArray), .string (⟨#[109, 105, 108, 108, 32, 97, 110, 100, 32, 102, 111, 114, 100]⟩ : ByteArray)]) (ok := fun _ => True) (okp := fun _ => True) ?hr ?hp (fun _ hk => hk) trivial (Below.refl _ _) (Nat.le_refl _) (by simp) ?_; (case hd => rfl); (case hg => rfl); (case hr => first | (go_simp; done) | (go_simp; rfl)); (case hp => exact (Reps.one (show Kd.M Kd.string _ _ _ (⟨#[]⟩ : ByteArray) [.string (⟨#[]⟩ : ByteArray)] from rfl) (Reps.one (show Kd.M Kd.string _ _ _ (⟨#[97]⟩ : ByteArray) [.string (⟨#[97]⟩ : ByteArray)] from rfl) (Reps.one (show Kd.M Kd.string _ _ _ (⟨#[98, 114, 105, 100, 103, 101]⟩ : ByteArray) [.string (⟨#[98, 114, 105, 100, 103, 101]⟩ : ByteArray)] from rfl) (Reps.one (show Kd.M Kd.string _ _ _ (⟨#[109, 105, 108, 108, 32, 97, 110, 100, 32, 102, 111, 114, 100]⟩ : ByteArray) [.string (⟨#[109, 105, 108, 108, 32, 97, 110, 100, 32, 102, 111, 114, 100]⟩ : ByteArray)] from rfl) (Reps.none _ _))))))
                intro v145 w19 ho20 hb hg_ hnew_
                clear hg_ hnew_
                (first | rw [← Ny144.out] at ho20 | (simp only [Int.reduceToNat] at ho20; rw [← Ny144.out] at ho20))
                have n0_ := Aside0.mk (Kd.R_below (by (with_reducible repeat (first | apply Kd.R_alloc | apply Kd.R_drewN | apply Kd.R_drew)); exact HO_138001.out) hb)
                have n1_ := Aside0.mk (Kd.R_lower ho20 (keep_size (w := w) (g := g) (row := none) (by repeat (first | (with_reducible first | exact HK.out | apply KeepBut.set_ | apply keep_drewN | apply keep_drew | apply keep_alloc | refine keep_far ?_ GW134.out _ | refine keep_far ?_ GW137.out _) | exact HK.out))))
                have n2_ := Aside0.mk (blk_below (g := gb134) (o := .cells #[.int .i64 0, .slice none 0 0] 29 (0, 0)) (by (with_reducible repeat (first | refine blk_drewN ?_ _ | refine blk_drew ?_ | refine blk_alloc ?_ _)); exact BK134.out) hb)
                have n3_ := Aside0.mk (blk_below (g := gb137) (o := .cells #[.int .i64 (wrap64 (1 + t135)), .slice Ao16 x138001_1.length co16] 29 (0, 0)) (by (with_reducible repeat (first | refine blk_drewN ?_ _ | refine blk_drew ?_ | refine blk_alloc ?_ _)); exact BK137.out) hb)
                have n4_ := Aside0.mk (IsS54.below (by repeat (first | (with_reducible first | exact HI0.out | apply IsS54.alloc | apply IsS54.drewN | apply IsS54.drew | apply IsS54.set_1 | refine IsS54.far ?_ NB0_134.out _ | refine IsS54.far ?_ NB0_137.out _) | exact HI0.out)) hb)
                have n5_ := Aside0.mk (KeepBut.trans (by repeat (first | (with_reducible first | exact HK.out | apply KeepBut.set_ | apply keep_drewN | apply keep_drew | apply keep_alloc | refine keep_far ?_ GW134.out _ | refine keep_far ?_ GW137.out _) | exact HK.out)) (KeepBut.of_below hb g none) (.inl rfl))
                have n6_ := Aside0.mk (below_step (by repeat (first | (with_reducible first | exact HB.out | apply below_alloc | apply pw_below_drewN | apply below_drew1 | refine below_set ?_ (IsS54.ge HI0.out) | refine below_set ?_ GE134.out | refine below_set ?_ GE137.out) | exact HB.out)) hb)
                clear HO_138001
                clear BK134
                clear BK137
                clear HI0
                clear HK
                clear HB
                have HO_138001 := n0_
                have HO146 := n1_
                have BK134 := n2_
                have BK137 := n3_
                have HI0 := n4_
                have HK := n5_
                have HB := n6_
                clear n0_ n1_ n2_ n3_ n4_ n5_ n6_
                clear hb ho20
                refine hK.out _ _ ⟨(blk_cell BK137.out 0).trans rfl, (blk_cell BK137.out 1).trans rfl⟩ (fun hHeld => ?_)
                clear hK K
                refine norm_ (a' := ?_) ?_ ?_
                rotate_left
                · show Act.put _ (some 26) _ = _
                  simp only [Act.put, List.setIfInBounds_toArray, List.set_cons_zero, List.set_cons_succ, i64_w, i32_w]
                  rfl
                refine one_ (i := 9) (N := some 24) #[true, true, true, true, true, true, true, true, true, true, true, true, false, false, false, false, false, false] rfl rfl (one_of HT_.out (by kernel_rfl)) (by decide) (fun K hK => ?_)
                refine goes_ Try.func13 (by kernel_rfl) rfl #[.pointer (some ⟨g, 0, none⟩), .int .i64 (wrap64 (1 + t135))] (by rfl) rfl rfl (by (try simp only [List.map_toArray, List.map_cons, List.map_nil]); first | done | rfl | (simp only [List.length_drop, List.length_take]; rfl)) ?_
                with_reducible refine (keyeventkit_Dice_Next.calls g s0_0 t141 (wrap64 (1 + t135)) t142 t143 w0 _ ?side1 ?side2 A13.out).mono ?_
                (case side1 => repeat (first | (with_reducible first | exact HI0.out | apply IsS54.alloc | apply IsS54.drewN | apply IsS54.drew | apply IsS54.set_1 | refine IsS54.far ?_ NB0_134.out _ | refine IsS54.far ?_ NB0_137.out _) | exact HI0.out))
                (case side2 => repeat (first | (with_reducible first | exact HB.out | apply below_alloc | apply pw_below_drewN | apply below_drew1 | refine below_set ?_ (IsS54.ge HI0.out) | refine below_set ?_ GE134.out | refine below_set ?_ GE137.out) | exact HB.out))
                rintro e w21 ⟨rfl, hi, hb, hk⟩
                refine ⟨_, rfl, ?_⟩
                have n0_ := Aside0.mk (Kd.R_mono (Kd.R_keep (IsS54.apart (show IsS54 w0 _ g s0_0 t141 from by repeat (first | (with_reducible first | exact HI0.out | apply IsS54.alloc | apply IsS54.drewN | apply IsS54.drew | apply IsS54.set_1 | refine IsS54.far ?_ NB0_134.out _ | refine IsS54.far ?_ NB0_137.out _) | exact HI0.out)) (by (with_reducible repeat (first | apply Kd.R_alloc | apply Kd.R_drewN | apply Kd.R_drew)); exact HO_138001.out) (by decide)) hk (fun _ h => h.2)) (fun _ h => h.1))
                have n1_ := Aside0.mk (KeepBut.blk hk (g' := gb134) (o := .cells #[.int .i64 0, .slice none 0 0] 29 (0, 0)) (by (with_reducible repeat (first | refine blk_drewN ?_ _ | refine blk_drew ?_ | refine blk_alloc ?_ _)); exact BK134.out) NB134_0.out (by simp))
                have n2_ := Aside0.mk (KeepBut.blk hk (g' := gb137) (o := .cells #[.int .i64 (wrap64 (1 + t135)), .slice Ao16 x138001_1.length co16] 29 (0, 0)) (by (with_reducible repeat (first | refine blk_drewN ?_ _ | refine blk_drew ?_ | refine blk_alloc ?_ _)); exact BK137.out) NB137_0.out (by simp))
                have n3_ := Aside0.mk (Kd.R_mono (Kd.R_keep (IsS54.apart (show IsS54 w0 _ g s0_0 t141 from by repeat (first | (with_reducible first | exact HI0.out | apply IsS54.alloc | apply IsS54.drewN | apply IsS54.drew | apply IsS54.set_1 | refine IsS54.far ?_ NB0_134.out _ | refine IsS54.far ?_ NB0_137.out _) | exact HI0.out)) (by (with_reducible repeat (first | apply Kd.R_alloc | apply Kd.R_drewN | apply Kd.R_drew)); exact HO146.out) (by decide)) hk (fun _ h => h.2)) (fun _ h => h.1))
                have n4_ := Aside0.mk (KeepBut.trans (by repeat (first | (with_reducible first | exact HK.out | apply KeepBut.set_ | apply keep_drewN | apply keep_drew | apply keep_alloc | refine keep_far ?_ GW134.out _ | refine keep_far ?_ GW137.out _) | exact HK.out)) hk (.inl rfl))
                have n5_ := Aside0.mk (hb)
                have n6_ := Aside0.mk (hi)
                clear HO_138001
                clear BK134
                clear BK137
                clear HO146
                clear HK
                clear HB
                clear HI0
                have HO_138001 := n0_
                have BK134 := n1_
                have BK137 := n2_
                have HO146 := n3_
                have HK := n4_
                have HB := n5_
                have HI0 := n6_
                clear n0_ n1_ n2_ n3_ n4_ n5_ n6_
                (try clear hb)
                (try clear hb2)
                (try clear hk)
                (try clear hi)
                refine hK.out _ _ ⟨(blk_cell BK137.out 0).trans rfl, (blk_cell BK137.out 1).trans rfl⟩ (fun hHeld => ?_)
                clear hK K
                refine norm_ (a' := ?_) ?_ ?_
                rotate_left
                · show Act.put _ (some 24) _ = _
                  simp only [Act.put, List.setIfInBounds_toArray, List.set_cons_zero, List.set_cons_succ, i64_w, i32_w]
                  rfl
                exact norm_ (by simp only [putAll, Act.put, List.setIfInBounds_toArray, List.set_cons_zero, List.set_cons_succ]) (hCont (v145) _ ⟨hHeld, (by (with_reducible repeat (first | apply Kd.R_alloc | apply Kd.R_drewN | apply Kd.R_drew)); exact HO146.out), (by (with_reducible repeat (first | apply Kd.R_alloc | apply Kd.R_drewN | apply Kd.R_drew)); exact HO_138001.out), (by (with_reducible repeat (first | refine blk_drewN ?_ _ | refine blk_drew ?_ | refine blk_alloc ?_ _)); exact BK134.out), (by (with_reducible repeat (first | refine blk_drewN ?_ _ | refine blk_drew ?_ | refine blk_alloc ?_ _)); exact BK137.out), (by repeat (first | (with_reducible first | exact HI0.out | apply IsS54.alloc | apply IsS54.drewN | apply IsS54.drew | apply IsS54.set_1 | refine IsS54.far ?_ NB0_134.out _ | refine IsS54.far ?_ NB0_137.out _) | exact HI0.out)), (by repeat (first | (with_reducible first | exact HK.out | apply KeepBut.set_ | apply keep_drewN | apply keep_drew | apply keep_alloc | refine keep_far ?_ GW134.out _ | refine keep_far ?_ GW137.out _) | exact HK.out)), (by repeat (first | (with_reducible first | exact HB.out | apply below_alloc | apply pw_below_drewN | apply below_drew1 | refine below_set ?_ (IsS54.ge HI0.out) | refine below_set ?_ GE134.out | refine below_set ?_ GE137.out) | exact HB.out))⟩)
            · skip
              refine Kd.R_lit_step Kd.string _ 9 ?hg (N := 26) ?hd (xs := ([(⟨#[]⟩ : ByteArray), (⟨#[97]⟩ : ByteArray), (⟨#[98, 114, 105, 100, 103, 101]⟩ : ByteArray), (⟨#[109, 105, 108, 108, 32, 97, 110, 100, 32, 102, 111, 114, 100]⟩ : ByteArray)] : List ByteArray)) (inner := [.string (⟨#[]⟩ : ByteArray), .string (⟨#[97]⟩ : ByteArray), .string (⟨#[98, 114, 105, 100, 103, 101]⟩ : ByteArray), .string (⟨#[109, 105, 108, 108, 32, 97, 110, 100, 32, 102, 111, 114, 100]⟩ : ByteArray)]) (ok := fun _ => True) (okp := fun _ => True) ?hr ?hp (fun _ hk => hk) trivial (Below.refl _ _) (Nat.le_refl _) (by simp) ?_; (case hd => rfl); (case hg => rfl); (case hr => first | (go_simp; done) | (go_simp; rfl)); (case hp => exact (Reps.one (show Kd.M Kd.string _ _ _ (⟨#[]⟩ : ByteArray) [.string (⟨#[]⟩ : ByteArray)] from rfl) (Reps.one (show Kd.M Kd.string _ _ _ (⟨#[97]⟩ : ByteArray) [.string (⟨#[97]⟩ : ByteArray)] from rfl) (Reps.one (show Kd.M Kd.string _ _ _ (⟨#[98, 114, 105, 100, 103, 101]⟩ : ByteArray) [.string (⟨#[98, 114, 105, 100, 103, 101]⟩ : ByteArray)] from rfl) (Reps.one (show Kd.M Kd.string _ _ _ (⟨#[109, 105, 108, 108, 32, 97, 110, 100, 32, 102, 111, 114, 100]⟩ : ByteArray) [.string (⟨#[109, 105, 108, 108, 32, 97, 110, 100, 32, 102, 111, 114, 100]⟩ : ByteArray)] from rfl) (Reps.none _ _))))))
              intro v145 w18 ho19 hb hg_ hnew_
              clear hg_ hnew_
              (first | rw [← Ny144.out] at ho19 | (simp only [Int.reduceToNat] at ho19; rw [← Ny144.out] at ho19))
              have n0_ := Aside0.mk (Kd.R_below (by (with_reducible repeat (first | apply Kd.R_alloc | apply Kd.R_drewN | apply Kd.R_drew)); exact HO_138001.out) hb)
              have n1_ := Aside0.mk (Kd.R_lower ho19 (keep_size (w := w) (g := g) (row := none) (by repeat (first | (with_reducible first | exact HK.out | apply KeepBut.set_ | apply keep_drewN | apply keep_drew | apply keep_alloc | refine keep_far ?_ GW134.out _ | refine keep_far ?_ GW137.out _) | exact HK.out))))
              have n2_ := Aside0.mk (blk_below (g := gb134) (o := .cells #[.int .i64 0, .slice none 0 0] 29 (0, 0)) (by (with_reducible repeat (first | refine blk_drewN ?_ _ | refine blk_drew ?_ | refine blk_alloc ?_ _)); exact BK134.out) hb)
              have n3_ := Aside0.mk (blk_below (g := gb137) (o := .cells #[.int .i64 (wrap64 (1 + t135)), .slice Ao16 x138001_1.length co16] 29 (0, 0)) (by (with_reducible repeat (first | refine blk_drewN ?_ _ | refine blk_drew ?_ | refine blk_alloc ?_ _)); exact BK137.out) hb)
              have n4_ := Aside0.mk (IsS54.below (by repeat (first | (with_reducible first | exact HI0.out | apply IsS54.alloc | apply IsS54.drewN | apply IsS54.drew | apply IsS54.set_1 | refine IsS54.far ?_ NB0_134.out _ | refine IsS54.far ?_ NB0_137.out _) | exact HI0.out)) hb)
              have n5_ := Aside0.mk (KeepBut.trans (by repeat (first | (with_reducible first | exact HK.out | apply KeepBut.set_ | apply keep_drewN | apply keep_drew | apply keep_alloc | refine keep_far ?_ GW134.out _ | refine keep_far ?_ GW137.out _) | exact HK.out)) (KeepBut.of_below hb g none) (.inl rfl))
              have n6_ := Aside0.mk (below_step (by repeat (first | (with_reducible first | exact HB.out | apply below_alloc | apply pw_below_drewN | apply below_drew1 | refine below_set ?_ (IsS54.ge HI0.out) | refine below_set ?_ GE134.out | refine below_set ?_ GE137.out) | exact HB.out)) hb)
              clear HO_138001
              clear BK134
              clear BK137
              clear HI0
              clear HK
              clear HB
              have HO_138001 := n0_
              have HO146 := n1_
              have BK134 := n2_
              have BK137 := n3_
              have HI0 := n4_
              have HK := n5_
              have HB := n6_
              clear n0_ n1_ n2_ n3_ n4_ n5_ n6_
              clear hb ho19
              refine hK.out _ _ ⟨(blk_cell BK137.out 0).trans rfl, (blk_cell BK137.out 1).trans rfl⟩ (fun hHeld => ?_)
              clear hK K
              refine norm_ (a' := ?_) ?_ ?_
              rotate_left
              · show Act.put _ (some 26) _ = _
                simp only [Act.put, List.setIfInBounds_toArray, List.set_cons_zero, List.set_cons_succ, i64_w, i32_w]
                rfl
              refine one_ (i := 5) (N := some 20) #[true, true, true, true, true, true, true, true, true, false, true, true, false, false, false, false, false, false] rfl rfl (one_of HT_.out (by kernel_rfl)) (by decide) (fun K hK => ?_)
              refine goes_ Try.func13 (by kernel_rfl) rfl #[.pointer (some ⟨g, 0, none⟩), .int .i64 (wrap64 (1 + t135))] (by rfl) rfl rfl (by (try simp only [List.map_toArray, List.map_cons, List.map_nil]); first | done | rfl | (simp only [List.length_drop, List.length_take]; rfl)) ?_
              with_reducible refine (keyeventkit_Dice_Next.calls g s0_0 x1001_1 (wrap64 (1 + t135)) t140 t141 w0 _ ?side1 ?side2 A12.out).mono ?_
              (case side1 => repeat (first | (with_reducible first | exact HI0.out | apply IsS54.alloc | apply IsS54.drewN | apply IsS54.drew | apply IsS54.set_1 | refine IsS54.far ?_ NB0_134.out _ | refine IsS54.far ?_ NB0_137.out _) | exact HI0.out))
              (case side2 => repeat (first | (with_reducible first | exact HB.out | apply below_alloc | apply pw_below_drewN | apply below_drew1 | refine below_set ?_ (IsS54.ge HI0.out) | refine below_set ?_ GE134.out | refine below_set ?_ GE137.out) | exact HB.out))
              rintro e w20 ⟨rfl, hi, hb, hk⟩
              refine ⟨_, rfl, ?_⟩
              have n0_ := Aside0.mk (Kd.R_mono (Kd.R_keep (IsS54.apart (show IsS54 w0 _ g s0_0 x1001_1 from by repeat (first | (with_reducible first | exact HI0.out | apply IsS54.alloc | apply IsS54.drewN | apply IsS54.drew | apply IsS54.set_1 | refine IsS54.far ?_ NB0_134.out _ | refine IsS54.far ?_ NB0_137.out _) | exact HI0.out)) (by (with_reducible repeat (first | apply Kd.R_alloc | apply Kd.R_drewN | apply Kd.R_drew)); exact HO_138001.out) (by decide)) hk (fun _ h => h.2)) (fun _ h => h.1))
              have n1_ := Aside0.mk (KeepBut.blk hk (g' := gb134) (o := .cells #[.int .i64 0, .slice none 0 0] 29 (0, 0)) (by (with_reducible repeat (first | refine blk_drewN ?_ _ | refine blk_drew ?_ | refine blk_alloc ?_ _)); exact BK134.out) NB134_0.out (by simp))
              have n2_ := Aside0.mk (KeepBut.blk hk (g' := gb137) (o := .cells #[.int .i64 (wrap64 (1 + t135)), .slice Ao16 x138001_1.length co16] 29 (0, 0)) (by (with_reducible repeat (first | refine blk_drewN ?_ _ | refine blk_drew ?_ | refine blk_alloc ?_ _)); exact BK137.out) NB137_0.out (by simp))
              have n3_ := Aside0.mk (Kd.R_mono (Kd.R_keep (IsS54.apart (show IsS54 w0 _ g s0_0 x1001_1 from by repeat (first | (with_reducible first | exact HI0.out | apply IsS54.alloc | apply IsS54.drewN | apply IsS54.drew | apply IsS54.set_1 | refine IsS54.far ?_ NB0_134.out _ | refine IsS54.far ?_ NB0_137.out _) | exact HI0.out)) (by (with_reducible repeat (first | apply Kd.R_alloc | apply Kd.R_drewN | apply Kd.R_drew)); exact HO146.out) (by decide)) hk (fun _ h => h.2)) (fun _ h => h.1))
              have n4_ := Aside0.mk (KeepBut.trans (by repeat (first | (with_reducible first | exact HK.out | apply KeepBut.set_ | apply keep_drewN | apply keep_drew | apply keep_alloc | refine keep_far ?_ GW134.out _ | refine keep_far ?_ GW137.out _) | exact HK.out)) hk (.inl rfl))
              have n5_ := Aside0.mk (hb)
              have n6_ := Aside0.mk (hi)
              clear HO_138001
              clear BK134
              clear BK137
              clear HO146
              clear HK
              clear HB
              clear HI0
              have HO_138001 := n0_
              have BK134 := n1_
              have BK137 := n2_
              have HO146 := n3_
              have HK := n4_
              have HB := n5_
              have HI0 := n6_
              clear n0_ n1_ n2_ n3_ n4_ n5_ n6_
              (try clear hb)
              (try clear hb2)
              (try clear hk)
              (try clear hi)
              refine hK.out _ _ ⟨(blk_cell BK137.out 0).trans rfl, (blk_cell BK137.out 1).trans rfl⟩ (fun hHeld => ?_)
              clear hK K
              refine norm_ (a' := ?_) ?_ ?_
              rotate_left
              · show Act.put _ (some 20) _ = _
                simp only [Act.put, List.setIfInBounds_toArray, List.set_cons_zero, List.set_cons_succ, i64_w, i32_w]
                rfl
              refine one_ (i := 9) (N := some 24) #[true, true, true, true, true, true, true, true, true, true, true, true, false, false, false, false, false, false] rfl rfl (one_of HT_.out (by kernel_rfl)) (by decide) (fun K hK => ?_)
              refine goes_ Try.func13 (by kernel_rfl) rfl #[.pointer (some ⟨g, 0, none⟩), .int .i64 (wrap64 (1 + t135))] (by rfl) rfl rfl (by (try simp only [List.map_toArray, List.map_cons, List.map_nil]); first | done | rfl | (simp only [List.length_drop, List.length_take]; rfl)) ?_
              with_reducible refine (keyeventkit_Dice_Next.calls g s0_0 t141 (wrap64 (1 + t135)) t142 t143 w0 _ ?side1 ?side2 A13.out).mono ?_
              (case side1 => repeat (first | (with_reducible first | exact HI0.out | apply IsS54.alloc | apply IsS54.drewN | apply IsS54.drew | apply IsS54.set_1 | refine IsS54.far ?_ NB0_134.out _ | refine IsS54.far ?_ NB0_137.out _) | exact HI0.out))
              (case side2 => repeat (first | (with_reducible first | exact HB.out | apply below_alloc | apply pw_below_drewN | apply below_drew1 | refine below_set ?_ (IsS54.ge HI0.out) | refine below_set ?_ GE134.out | refine below_set ?_ GE137.out) | exact HB.out))
              rintro e w21 ⟨rfl, hi, hb, hk⟩
              refine ⟨_, rfl, ?_⟩
              have n0_ := Aside0.mk (Kd.R_mono (Kd.R_keep (IsS54.apart (show IsS54 w0 _ g s0_0 t141 from by repeat (first | (with_reducible first | exact HI0.out | apply IsS54.alloc | apply IsS54.drewN | apply IsS54.drew | apply IsS54.set_1 | refine IsS54.far ?_ NB0_134.out _ | refine IsS54.far ?_ NB0_137.out _) | exact HI0.out)) (by (with_reducible repeat (first | apply Kd.R_alloc | apply Kd.R_drewN | apply Kd.R_drew)); exact HO_138001.out) (by decide)) hk (fun _ h => h.2)) (fun _ h => h.1))
              have n1_ := Aside0.mk (KeepBut.blk hk (g' := gb134) (o := .cells #[.int .i64 0, .slice none 0 0] 29 (0, 0)) (by (with_reducible repeat (first | refine blk_drewN ?_ _ | refine blk_drew ?_ | refine blk_alloc ?_ _)); exact BK134.out) NB134_0.out (by simp))
              have n2_ := Aside0.mk (KeepBut.blk hk (g' := gb137) (o := .cells #[.int .i64 (wrap64 (1 + t135)), .slice Ao16 x138001_1.length co16] 29 (0, 0)) (by (with_reducible repeat (first | refine blk_drewN ?_ _ | refine blk_drew ?_ | refine blk_alloc ?_ _)); exact BK137.out) NB137_0.out (by simp))
              have n3_ := Aside0.mk (Kd.R_mono (Kd.R_keep (IsS54.apart (show IsS54 w0 _ g s0_0 t141 from by repeat (first | (with_reducible first | exact HI0.out | apply IsS54.alloc | apply IsS54.drewN | apply IsS54.drew | apply IsS54.set_1 | refine IsS54.far ?_ NB0_134.out _ | refine IsS54.far ?_ NB0_137.out _) | exact HI0.out)) (by (with_reducible repeat (first | apply Kd.R_alloc | apply Kd.R_drewN | apply Kd.R_drew)); exact HO146.out) (by decide)) hk (fun _ h => h.2)) (fun _ h => h.1))
              have n4_ := Aside0.mk (KeepBut.trans (by repeat (first | (with_reducible first | exact HK.out | apply KeepBut.set_ | apply keep_drewN | apply keep_drew | apply keep_alloc | refine keep_far ?_ GW134.out _ | refine keep_far ?_ GW137.out _) | exact HK.out)) hk (.inl rfl))
              have n5_ := Aside0.mk (hb)
              have n6_ := Aside0.mk (hi)
              clear HO_138001
              clear BK134
              clear BK137
              clear HO146
              clear HK
              clear HB
              clear HI0
              have HO_138001 := n0_
              have BK134 := n1_
              have BK137 := n2_
              have HO146 := n3_
              have HK := n4_
              have HB := n5_
              have HI0 := n6_
              clear n0_ n1_ n2_ n3_ n4_ n5_ n6_
              (try clear hb)
              (try clear hb2)
              (try clear hk)
              (try clear hi)
              refine hK.out _ _ ⟨(blk_cell BK137.out 0).trans rfl, (blk_cell BK137.out 1).trans rfl⟩ (fun hHeld => ?_)
              clear hK K
              refine norm_ (a' := ?_) ?_ ?_
              rotate_left
              · show Act.put _ (some 24) _ = _
                simp only [Act.put, List.setIfInBounds_toArray, List.set_cons_zero, List.set_cons_succ, i64_w, i32_w]
                rfl
              exact norm_ (by simp only [putAll, Act.put, List.setIfInBounds_toArray, List.set_cons_zero, List.set_cons_succ]) (hCont (v145) _ ⟨hHeld, (by (with_reducible repeat (first | apply Kd.R_alloc | apply Kd.R_drewN | apply Kd.R_drew)); exact HO146.out), (by (with_reducible repeat (first | apply Kd.R_alloc | apply Kd.R_drewN | apply Kd.R_drew)); exact HO_138001.out), (by (with_reducible repeat (first | refine blk_drewN ?_ _ | refine blk_drew ?_ | refine blk_alloc ?_ _)); exact BK134.out), (by (with_reducible repeat (first | refine blk_drewN ?_ _ | refine blk_drew ?_ | refine blk_alloc ?_ _)); exact BK137.out), (by repeat (first | (with_reducible first | exact HI0.out | apply IsS54.alloc | apply IsS54.drewN | apply IsS54.drew | apply IsS54.set_1 | refine IsS54.far ?_ NB0_134.out _ | refine IsS54.far ?_ NB0_137.out _) | exact HI0.out)), (by repeat (first | (with_reducible first | exact HK.out | apply KeepBut.set_ | apply keep_drewN | apply keep_drew | apply keep_alloc | refine keep_far ?_ GW134.out _ | refine keep_far ?_ GW137.out _) | exact HK.out)), (by repeat (first | (with_reducible first | exact HB.out | apply below_alloc | apply pw_below_drewN | apply below_drew1 | refine below_set ?_ (IsS54.ge HI0.out) | refine below_set ?_ GE134.out | refine below_set ?_ GE137.out) | exact HB.out))⟩)
          rintro v145 w22 ⟨hS_, h0_, h1_, h2_, h3_, h4_, h5_, h6_⟩
          have n0_ : Aside0 (Kd.R Kd.string 9 w22 w.heap.size (fun _ => True) v145 y144) := ⟨h0_⟩
          have n1_ : Aside0 (Kd.R k39 39 w22 w.heap.size (fun _ => True) (.slice Ao16 x138001_1.length co16) x138001_1) := ⟨h1_⟩
          have n2_ : Aside0 (w22.heap[gb134]? = some (.cells #[.int .i64 0, .slice none 0 0] 29 (0, 0))) := ⟨h2_⟩
          have n3_ : Aside0 (w22.heap[gb137]? = some (.cells #[.int .i64 (wrap64 (1 + t135)), .slice Ao16 x138001_1.length co16] 29 (0, 0))) := ⟨h3_⟩
          have n4_ : Aside0 (IsS54 w0 w22 g s0_0 t143) := ⟨h4_⟩
          have n5_ : Aside0 (KeepBut w w22 g none) := ⟨h5_⟩
          have n6_ : Aside0 (Below w0.heap.size w0 w22) := ⟨h6_⟩
          clear HO_138001
          clear BK134
          clear BK137
          clear HI0
          clear HK
          clear HB
          clear h0_ h1_ h2_ h3_ h4_ h5_ h6_
          have HO146 := n0_
          have HO_138001 := n1_
          have BK134 := n2_
          have BK137 := n3_
          have HI0 := n4_
          have HK := n5_
          have HB := n6_
          clear n0_ n1_ n2_ n3_ n4_ n5_ n6_
          have hHeld : w22.cell? ⟨gb137, 0, none⟩ = some (.int .i64 (wrap64 (1 + t135))) ∧ w22.cell? ⟨gb137, 1, none⟩ = some (.slice Ao16 x138001_1.length co16) := hS_
          obtain ⟨Ao23, co23, eo23⟩ := Kd.R_slice HO146.out
          (first | subst eo23 | (injection eo23 with f1_ f2_ f3_; have f4_ := f1_.symm; have f5_ := f3_.symm; clear f1_ f2_ f3_; subst f4_; subst f5_))
          refine norm_ (a' := ?_) ?_ ?_
          rotate_left
          · simp only [putAll, Act.put, List.setIfInBounds_toArray, List.set_cons_zero, List.set_cons_succ]
            rfl
          refine one_ (i := 12) (N := some 27) #[true, true, true, true, true, true, true, true, true, true, true, true, true, false, false, false, false, false] rfl rfl (one_of HT_.out (by kernel_rfl)) (by decide) (fun K hK => ?_)
          refine goes_ Try.func27 (by kernel_rfl) rfl #[.pointer (some ⟨g, 0, none⟩), .slice Ao23 y144.length co23] (by rfl) rfl rfl (by (try simp only [List.map_toArray, List.map_cons, List.map_nil]); first | done | rfl | (simp only [List.length_drop, List.length_take]; rfl)) ?_
          with_reducible refine (keyeventkit_Dice_Word.calls g s0_0 t143 _ _ y144 t147 t148 w0 _ ?side1 ?side2 ?side3 ?side4 ?side5 A14.out).mono ?_
          (case side1 => repeat (first | (with_reducible first | exact HI0.out | apply IsS54.alloc | apply IsS54.drewN | apply IsS54.drew | apply IsS54.set_1 | refine IsS54.far ?_ NB0_134.out _ | refine IsS54.far ?_ NB0_137.out _) | exact HI0.out))
          (case side2 => repeat (first | (with_reducible first | exact HB.out | apply below_alloc | apply pw_below_drewN | apply below_drew1 | refine below_set ?_ (IsS54.ge HI0.out) | refine below_set ?_ GE134.out | refine below_set ?_ GE137.out) | exact HB.out))
          (case side3 => repeat (first | exact (Kd.R_reads' HO146.out).2.2 | (with_reducible refine Kd.C_alloc ?_ _) | (with_reducible refine Kd.C_drewN ?_ _) | (with_reducible refine Kd.C_drew ?_)))
          (case side4 => exact (Kd.R_reads' HO146.out).2.1)
          (case side5 => exact far_slice (IsS54.own_ne HI0.out HO146.out (by decide)))
          rintro e w24 ⟨rfl, hi, hb, hk⟩
          refine ⟨_, rfl, ?_⟩
          have n0_ := Aside0.mk (Kd.R_mono (Kd.R_keep (IsS54.apart (show IsS54 w0 _ g s0_0 t143 from by repeat (first | (with_reducible first | exact HI0.out | apply IsS54.alloc | apply IsS54.drewN | apply IsS54.drew | apply IsS54.set_1 | refine IsS54.far ?_ NB0_134.out _ | refine IsS54.far ?_ NB0_137.out _) | exact HI0.out)) (by (with_reducible repeat (first | apply Kd.R_alloc | apply Kd.R_drewN | apply Kd.R_drew)); exact HO_138001.out) (by decide)) hk (fun _ h => h.2)) (fun _ h => h.1))
          have n1_ := Aside0.mk (KeepBut.blk hk (g' := gb134) (o := .cells #[.int .i64 0, .slice none 0 0] 29 (0, 0)) (by (with_reducible repeat (first | refine blk_drewN ?_ _ | refine blk_drew ?_ | refine blk_alloc ?_ _)); exact BK134.out) NB134_0.out (by simp))
          have n2_ := Aside0.mk (KeepBut.blk hk (g' := gb137) (o := .cells #[.int .i64 (wrap64 (1 + t135)), .slice Ao16 x138001_1.length co16] 29 (0, 0)) (by (with_reducible repeat (first | refine blk_drewN ?_ _ | refine blk_drew ?_ | refine blk_alloc ?_ _)); exact BK137.out) NB137_0.out (by simp))
          have n3_ := Aside0.mk (Kd.R_mono (Kd.R_keep (IsS54.apart (show IsS54 w0 _ g s0_0 t143 from by repeat (first | (with_reducible first | exact HI0.out | apply IsS54.alloc | apply IsS54.drewN | apply IsS54.drew | apply IsS54.set_1 | refine IsS54.far ?_ NB0_134.out _ | refine IsS54.far ?_ NB0_137.out _) | exact HI0.out)) (by (with_reducible repeat (first | apply Kd.R_alloc | apply Kd.R_drewN | apply Kd.R_drew)); exact HO146.out) (by decide)) hk (fun _ h => h.2)) (fun _ h => h.1))
          have n4_ := Aside0.mk (KeepBut.trans (by repeat (first | (with_reducible first | exact HK.out | apply KeepBut.set_ | apply keep_drewN | apply keep_drew | apply keep_alloc | refine keep_far ?_ GW134.out _ | refine keep_far ?_ GW137.out _) | exact HK.out)) hk (.inl rfl))
          have n5_ := Aside0.mk (hb)
          have n6_ := Aside0.mk (hi)
          clear HO_138001
          clear BK134
          clear BK137
          clear HO146
          clear HK
          clear HB
          clear HI0
          have HO_138001 := n0_
          have BK134 := n1_
          have BK137 := n2_
          have HO146 := n3_
          have HK := n4_
          have HB := n5_
          have HI0 := n6_
          clear n0_ n1_ n2_ n3_ n4_ n5_ n6_
          (try clear hb)
          (try clear hb2)
          (try clear hk)
          (try clear hi)
          refine hK.out _ _ ⟨(blk_cell BK137.out 0).trans rfl, (blk_cell BK137.out 1).trans rfl⟩ (fun hHeld => ?_)
          clear hK K
          refine norm_ (a' := ?_) ?_ ?_
          rotate_left
          · show Act.put _ (some 27) _ = _
            simp only [Act.put, List.setIfInBounds_toArray, List.set_cons_zero, List.set_cons_succ, i64_w, i32_w]
            rfl
          refine pure_ (i := 13) (N := some 28) (v := ?_) (a' := ?_) #[true, true, true, true, true, true, true, true, true, true, true, true, true, true, false, false, false, false] rfl rfl (any_of HT_.out (by kernel_rfl)) (fun _ _ _ h => h) (Or.inl ⟨by rfl, ?_⟩) ?_ ?_
          rotate_left
          · intro w'
            go_simp
            with_reducible rfl
          rotate_left
          · simp only [Act.put, List.setIfInBounds_toArray, List.set_cons_zero, List.set_cons_succ, i64_w, i32_w]
            rfl
          refine one_ (i := 14) (N := some 29) #[true, true, true, true, true, true, true, true, true, true, true, true, true, true, true, false, false, false] rfl rfl (one_of HT_.out (by kernel_rfl)) (by decide) (fun K hK => ?_)
          refine value_ (w1 := ?_) (v := ?_) (by rfl) rfl ?_ ?_
          rotate_left 2
          · go_simp
            constructor
            · rfl
            · rfl
          refine hK.out _ _ ⟨(blk_cell (blk_alloc BK137.out _) 0).trans rfl, (blk_cell (blk_alloc BK137.out _) 1).trans rfl⟩ (fun hHeld => ?_)
          clear hK K
          refine norm_ (a' := ?_) ?_ ?_
          rotate_left
          · show Act.put _ (some 29) _ = _
            simp only [Act.put, List.setIfInBounds_toArray, List.set_cons_zero, List.set_cons_succ, i64_w, i32_w]
            rfl
          refine one_ (i := 15) (N := some 30) #[true, true, true, true, true, true, true, true, true, true, true, true, true, true, true, true, false, false] rfl rfl (one_of HT_.out (by kernel_rfl)) (by decide) (fun K hK => ?_)
          refine Kd.R_append_step k39 w.heap.size (by rfl) (.tmp 16) (.tmp 29) 27 39 (.agg #[(.int .i64 0), (.int .i64 0), (.string ⟨#[]⟩)]) 32 rfl Try.underlying27 info39 rfl (by decide) (by omega) (.slice Ao16 x138001_1.length co16) x138001_1 (⟨t140, t142, t147⟩ : S39) [.int .i64 t140, .int .i64 t142, .string t147] (fun _ => True) (fun _ => False) rfl rfl ?aP (fun _ hk => hk.elim) ?aF ?aO (Below.refl _ _) ?aS ?aL ?_
          (case aP => exact k39_mkM _ _ _ (⟨t140, t142, t147⟩ : S39))
          (case aF => exact (fun _ _ => trivial))
          (case aO => exact (by (with_reducible repeat (first | apply Kd.R_alloc | apply Kd.R_drewN | apply Kd.R_drew)); exact HO_138001.out))
          (case aS => exact (keep_size (w := w) (g := g) (row := none) (by repeat (first | (with_reducible first | exact HK.out | apply KeepBut.set_ | apply keep_drewN | apply keep_drew | apply keep_alloc | refine keep_far ?_ GW134.out _ | refine keep_far ?_ GW137.out _) | exact HK.out))))
          (case aL => have := LMc15.out; omega)
          intro v150 w25 ho hb hg hat
          rw [← Ny149.out] at ho
          have n0_ := Aside0.mk (blk_grown (g := gb134) (o := .cells #[.int .i64 0, .slice none 0 0] 29 (0, 0)) (by (with_reducible repeat (first | refine blk_drewN ?_ _ | refine blk_drew ?_ | refine blk_alloc ?_ _)); exact BK134.out) hg (Kd.R_ne HO_138001.out BK134.out (by decide)))
          have n1_ := Aside0.mk (blk_grown (g := gb137) (o := .cells #[.int .i64 (wrap64 (1 + t135)), .slice Ao16 x138001_1.length co16] 29 (0, 0)) (by (with_reducible repeat (first | refine blk_drewN ?_ _ | refine blk_drew ?_ | refine blk_alloc ?_ _)); exact BK137.out) hg (Kd.R_ne HO_138001.out BK137.out (by decide)))
          have n2_ := Aside0.mk (IsS54.grown (by repeat (first | (with_reducible first | exact HI0.out | apply IsS54.alloc | apply IsS54.drewN | apply IsS54.drew | apply IsS54.set_1 | refine IsS54.far ?_ NB0_134.out _ | refine IsS54.far ?_ NB0_137.out _) | exact HI0.out)) hg (IsS54.own_ne HI0.out HO_138001.out (by decide)))
          have n3_ := Aside0.mk (Kd.R_over' (by (with_reducible repeat (first | apply Kd.R_alloc | apply Kd.R_drewN | apply Kd.R_drew)); exact HO146.out) (Kd.R_typed (by (with_reducible repeat (first | apply Kd.R_alloc | apply Kd.R_drewN | apply Kd.R_drew)); exact HO_138001.out)) (by decide) hg)
          have n4_ := Aside0.mk (below_weaken (by repeat (first | (with_reducible first | exact HB.out | apply below_alloc | apply pw_below_drewN | apply below_drew1 | refine below_set ?_ (IsS54.ge HI0.out) | refine below_set ?_ GE134.out | refine below_set ?_ GE137.out) | exact HB.out)) HL.out hb)
          have n5_ := Aside0.mk (KeepBut.trans (by repeat (first | (with_reducible first | exact HK.out | apply KeepBut.set_ | apply keep_drewN | apply keep_drew | apply keep_alloc | refine keep_far ?_ GW134.out _ | refine keep_far ?_ GW137.out _) | exact HK.out)) (KeepBut.of_grown hg g) (Kd.R_base2 HO_138001.out))
          have n6_ := Aside0.mk (ho)
          clear BK134
          clear BK137
          clear HI0
          clear HO146
          clear HB
          clear HK
          clear HO_138001
          have BK134 := n0_
          have BK137 := n1_
          have HI0 := n2_
          have HO146 := n3_
          have HB := n4_
          have HK := n5_
          have HO151 := n6_
          clear n0_ n1_ n2_ n3_ n4_ n5_ n6_
          clear ho hb hg hat
          obtain ⟨Ao26, co26, eo26⟩ := Kd.R_slice HO151.out
          (first | subst eo26 | (injection eo26 with f1_ f2_ f3_; have f4_ := f1_.symm; have f5_ := f3_.symm; clear f1_ f2_ f3_; subst f4_; subst f5_))
          refine hK.out _ _ ⟨(blk_cell BK137.out 0).trans rfl, (blk_cell BK137.out 1).trans rfl⟩ (fun hHeld => ?_)
          clear hK K
          refine norm_ (a' := ?_) ?_ ?_
          rotate_left
          · show Act.put _ (some 30) _ = _
            simp only [Act.put, List.setIfInBounds_toArray, List.set_cons_zero, List.set_cons_succ, i64_w, i32_w]
            rfl
          refine pure_ (i := 16) (N := some 31) (v := ?_) (a' := ?_) #[true, true, true, true, true, true, true, true, true, true, true, true, true, true, true, true, true, false] rfl rfl (any_of HT_.out (by kernel_rfl)) (fun _ _ _ h => h) (Or.inl ⟨by rfl, ?_⟩) ?_ ?_
          rotate_left
          · intro w'
            go_simp
            with_reducible rfl
          rotate_left
          · simp only [Act.put, List.setIfInBounds_toArray, List.set_cons_zero, List.set_cons_succ, i64_w, i32_w]
            rfl
          refine last_ (i := 17) (N := none) #[true, true, true, true, true, true, true, true, true, true, true, true, true, true, true, true, true, true] rfl rfl (one_of HT_.out (by kernel_rfl)) (by decide) (fun K hK => ?_)
          have hs27 : w25.cell? ⟨gb137, 1, none⟩ = some (.slice Ao16 x138001_1.length co16) := (blk_cell BK137.out 1).trans rfl
          have hfs27 := blk_frozen BK137.out 1
          have hns27_0 := NB134_137.out
          have hms27_0 := NB137_134.out
          refine skip_ (w1 := ?_) (by rfl) rfl ?_ ?_
          rotate_left
          · go_simp
            rfl
          refine hK.out _ _ ?_
          clear hK K
          refine done_ (done_of HT_.out (by kernel_rfl)) ?_
          try go_wp2
          go_roundg k1
          case measure => have := HK1.out; omega
          case rel => exact ⟨(wrap64 (x4_1 - 1)), (t148), (y149), (.slice Ao26 y149.length co26), (by first | rfl | (simp; done) | (simp [*]; done)), H', ⟨by have := HK1.out; omega⟩, ⟨by (with_reducible repeat (first | apply Kd.R_alloc | apply Kd.R_drewN | apply Kd.R_drew)); exact Kd.R_mono (Kd.R_far (p := ⟨gb137, 1, none⟩) (Kd.R_types HO151.out BK137.out (by decide)) (fun _ hk => hk.2) (.slice Ao26 y149.length co26)) (fun _ hk => trivial)⟩, ⟨by (with_reducible repeat (first | refine blk_drewN ?_ _ | refine blk_drew ?_ | refine blk_alloc ?_ _)); refine blk_far ?_ NB134_137.out _; (with_reducible repeat (first | refine blk_drewN ?_ _ | refine blk_drew ?_ | refine blk_alloc ?_ _)); exact BK134.out⟩, ⟨by (with_reducible repeat (first | refine blk_drewN ?_ _ | refine blk_drew ?_ | refine blk_alloc ?_ _)); refine blk_put (cs := #[.int .i64 (wrap64 (1 + t135)), .slice Ao16 x138001_1.length co16]) ?_ 1 _ rfl; (with_reducible repeat (first | refine blk_drewN ?_ _ | refine blk_drew ?_ | refine blk_alloc ?_ _)); exact BK137.out⟩, ⟨by repeat (first | (with_reducible first | exact HI0.out | apply IsS54.alloc | apply IsS54.drewN | apply IsS54.drew | apply IsS54.set_1 | refine IsS54.far ?_ NB0_134.out _ | refine IsS54.far ?_ NB0_137.out _) | exact HI0.out)⟩, ⟨by repeat (first | (with_reducible first | exact HK.out | apply KeepBut.set_ | apply keep_drewN | apply keep_drew | apply keep_alloc | refine keep_far ?_ GW134.out _ | refine keep_far ?_ GW137.out _) | exact HK.out)⟩, ⟨by repeat (first | (with_reducible first | exact HB.out | apply below_alloc | apply pw_below_drewN | apply below_drew1 | refine below_set ?_ (IsS54.ge HI0.out) | refine below_set ?_ GE134.out | refine below_set ?_ GE137.out) | exact HB.out)⟩⟩
        · rw [if_neg c15] at H
          exact absurd H (by simp)
      · rw [if_neg c11] at H
        have c11b0 : decide (0 < x4_1) = false := decide_eq_false c11
        clear c11
        simp only [Option.some.injEq, Prod.mk.injEq] at H
        obtain ⟨rfl, rfl, rfl⟩ := H
        have hnb28 := NB137_134.out
        have hnc28 := NB134_137.out
        have hnb29 := NB137_0.out
        have hnc29 := NB0_137.out
        have hcz30_0 : wr.cell? ⟨gb137, 0, none⟩ = some (.int .i64 (wrap64 (1 + t135))) := (blk_cell BK137.out 0).trans rfl
        have hcz30_1 : wr.cell? ⟨gb137, 1, none⟩ = some (u138001) := (blk_cell BK137.out 1).trans rfl
        have hfz30_0 := blk_frozen BK137.out 0
        have hfz30_1 := blk_frozen BK137.out 1
        have hnb31 := NB134_0.out
        have hnc31 := NB0_134.out
        have hcz32_0 : wr.cell? ⟨gb134, 0, none⟩ = some (.int .i64 0) := (blk_cell BK134.out 0).trans rfl
        have hcz32_1 : wr.cell? ⟨gb134, 1, none⟩ = some (.slice none 0 0) := (blk_cell BK134.out 1).trans rfl
        have hfz32_0 := blk_frozen BK134.out 0
        have hfz32_1 := blk_frozen BK134.out 1
        obtain ⟨Ao33, co33, eo33⟩ := Kd.R_slice HO_138001.out
        subst eo33
        go_wp2
        refine bodyPost_ret (results_cell_row rfl _ _ gb134 29 #[.int .i64 (wrap64 (1 + t135)), .slice Ao33 x138001_1.length co33] (0, 0) _ rfl (by (with_reducible repeat (first | refine blk_drewN ?_ _ | refine blk_drew ?_ | refine blk_alloc ?_ _)); refine blk_put (cs := #[.int .i64 (wrap64 (1 + t135)), .slice none 0 0]) ?_ 1 _ rfl; (with_reducible repeat (first | refine blk_drewN ?_ _ | refine blk_drew ?_ | refine blk_alloc ?_ _)); refine blk_put (cs := #[.int .i64 0, .slice none 0 0]) ?_ 0 _ rfl; (with_reducible repeat (first | refine blk_drewN ?_ _ | refine blk_drew ?_ | refine blk_alloc ?_ _)); exact BK134.out) Try.underlying29 rfl (by kernel_rfl)) rfl ?_
        exact ⟨_, by first | rfl | (simp [errW_none, errW_some] <;> rfl) | (simp [*, errW_none, errW_some] <;> rfl), by (with_reducible repeat (first | apply Kd.R_alloc | apply Kd.R_drewN | apply Kd.R_drew)); exact Kd.R_mono (Kd.R_far (p := ⟨gb134, 1, none⟩) (Kd.R_far (p := ⟨gb134, 0, none⟩) (Kd.R_types HO_138001.out BK134.out (by decide)) (fun _ hk => hk.2) (.int .i64 (wrap64 (1 + t135)))) (fun _ hk => hk.2) (.slice Ao33 x138001_1.length co33)) (fun _ hk => trivial), by repeat (first | (with_reducible first | exact HI0.out | apply IsS54.alloc | apply IsS54.drewN | apply IsS54.drew | apply IsS54.set_1 | refine IsS54.far ?_ NB0_134.out _ | refine IsS54.far ?_ NB0_137.out _) | exact HI0.out), by repeat (first | (with_reducible first | exact HB.out | apply below_alloc | apply pw_below_drewN | apply below_drew1 | refine below_set ?_ (IsS54.ge HI0.out) | refine below_set ?_ GE134.out | refine below_set ?_ GE137.out) | exact HB.out), by repeat (first | (with_reducible first | exact HK.out | apply KeepBut.set_ | apply keep_drewN | apply keep_drew | apply keep_alloc | refine keep_far ?_ GW134.out _ | refine keep_far ?_ GW137.out _) | exact HK.out)⟩

/-! ### keyeventplay_Happenings: function 11 -/
def keyeventplay_Happenings.l0 : Nat → List (S34) → Int → List Int → Int → Option ((List (S34)) × Int)
  | 0, _, _, _, _ => none
  | k + 1, x5, x6, x1000, x1001 => if x6 > 0 then ((keyeventkit_Dice_Next.f x1000 x1001 5).bind fun bt154 => ((keyeventkit_Dice_Next.f x1000 bt154.2 7).bind fun bt156 => ((keyeventkit_Dice_Next.f x1000 bt156.2 9).bind fun bt158 => ((keyeventkit_Dice_Next.f x1000 bt158.2 300).bind fun bt160 => (if x5.length < 4398046511104 then (keyeventplay_Happenings.l0 k (x5 ++ [(⟨wrap64 (1 + bt154.1), wrap64 (bt156.1 - 1), bt158.1, bt160.1⟩ : S34)]) (wrap64 (x6 - 1)) x1000 bt160.2) else (none)))))) else (some (x5, x1001))
def keyeventplay_Happenings.f (k : Nat) (s0_0 : List Int) (s0_1 : Int) (a1 : Int) : Option ((List (S34)) × Int) := (keyeventkit_Dice_Next.f s0_0 s0_1 (wrap64 (a1 + 1))).bind fun bt152 => (keyeventplay_Happenings.l0 k ([] : List (S34)) bt152.1 s0_0 bt152.2)
theorem keyeventplay_Happenings.mono_l : ∀ k, (∀ y0 y1 y2 y3, LeO (keyeventplay_Happenings.l0 k y0 y1 y2 y3) (keyeventplay_Happenings.l0 (k + 1) y0 y1 y2 y3))
  | 0 => fun _ _ _ _ r h => by simp [keyeventplay_Happenings.l0] at h
  | k + 1 => by
    have ih0 := keyeventplay_Happenings.mono_l k
    · intro y0 y1 y2 y3
      unfold keyeventplay_Happenings.l0
      repeat' first
      | (with_reducible exact ih0 _ _ _ _)
      | (with_reducible exact LeO.refl _)
      | (with_reducible exact LeO.none _)
      | (with_reducible refine LeO.ite ?_ ?_)
      | (with_reducible refine LeO.bind ?_ (fun _ => ?_))
      | exact ih0 _ _ _ _
      | exact LeO.none _
      | refine LeO.ite ?_ ?_
      | refine LeO.bind ?_ (fun _ => ?_)
theorem keyeventplay_Happenings.mono : ∀ a0 a1 a2 k, LeO (keyeventplay_Happenings.f k a0 a1 a2) (keyeventplay_Happenings.f (k + 1) a0 a1 a2) := by
  intro a0 a1 a2 k
  have ih0 := keyeventplay_Happenings.mono_l k
  unfold keyeventplay_Happenings.f
  repeat' first
      | (with_reducible exact ih0 _ _ _ _)
      | (with_reducible exact LeO.refl _)
      | (with_reducible exact LeO.none _)
      | (with_reducible refine LeO.ite ?_ ?_)
      | (with_reducible refine LeO.bind ?_ (fun _ => ?_))
      | exact ih0 _ _ _ _
      | exact LeO.none _
      | refine LeO.ite ?_ ?_
      | refine LeO.bind ?_ (fun _ => ?_)
set_option maxHeartbeats 8000000 in
set_option maxRecDepth 100000 in
theorem keyeventplay_Happenings.calls (k : Nat) (g : Nat) (s0_0 : List Int) (s0_1 : Int) (a1 : Int) (r1 : List (S34)) (r2 : Int) (w0 w : World) (hI : IsS54 w0 w g s0_0 s0_1) (hB : Below w0.heap.size w0 w) (h : keyeventplay_Happenings.f k s0_0 s0_1 a1 = some (r1, r2)) :
    Calls Try.prog 11 #[.pointer (some ⟨g, 0, none⟩), .int .i64 a1] w fun e w' => ∃ v0_ : Value, e = .returned (v0_) ∧ Kd.R k34 34 w' w.heap.size (fun _ => True) v0_ r1 ∧ IsS54 w0 w' g s0_0 r2 ∧ Below w0.heap.size w0 w' ∧ KeepBut w w' g none := by
  have hu34 := Try.underlying34
  have HI0 := Aside0.mk hI
  have HK := Aside0.mk (KeepBut.refl w g none)
  have HL := Aside0.mk hB.size
  clear hI
  have HW0 := Aside0.mk hB.size
  have HB := Aside0.mk hB
  clear hB
  have H : ((keyeventkit_Dice_Next.f s0_0 s0_1 (wrap64 (a1 + 1))).bind fun bt152 => (keyeventplay_Happenings.l0 k ([] : List (S34)) bt152.1 s0_0 bt152.2)) = some (r1, r2) := h
  clear h
  replace H := Option.bind_eq_some_iff.mp H
  obtain ⟨⟨t152, t153⟩, A30, H⟩ := H
  replace H : (keyeventplay_Happenings.l0 k ([] : List (S34)) t152 s0_0 t153) = some (r1, r2) := H
  have A3 := Aside0.mk A30
  clear A30
  have H' := Aside0.mk H
  clear H
  go_enter Try.func11, Try.ntmps11
  go_wp2_with (first | ((with_reducible refine gate_callee (f := 13) rfl ?_); refine goesL_ (some 10) rfl rfl Try.func13 (by kernel_rfl) rfl #[.pointer (some ⟨g, 0, none⟩), .int .i64 (wrap64 (a1 + 1))] rfl (by (try simp only [List.map_toArray, List.map_cons, List.map_nil]); first | done | rfl | (simp only [List.length_drop, List.length_take]; rfl)) ?_; (with_reducible refine (keyeventkit_Dice_Next.calls g s0_0 s0_1 (wrap64 (a1 + 1)) t152 t153 w0 _ ?side1 ?side2 A3.out).mono ?_); (case side1 => repeat (first | (with_reducible first | exact HI0.out | apply IsS54.alloc | apply IsS54.drewN | apply IsS54.drew | apply IsS54.set_1) | exact HI0.out)); (case side2 => repeat (first | (with_reducible first | exact HB.out | apply below_alloc | apply pw_below_drewN | apply below_drew1 | refine below_set ?_ (IsS54.ge HI0.out)) | exact HB.out)); rintro e w4 ⟨rfl, hi, hb, hk⟩; refine ⟨_, rfl, ?_⟩; have n0_ := Aside0.mk (KeepBut.trans (by repeat (first | (with_reducible first | exact HK.out | apply KeepBut.set_ | apply keep_drewN | apply keep_drew | apply keep_alloc) | exact HK.out)) hk (.inl rfl)); have n1_ := Aside0.mk (hb); have n2_ := Aside0.mk (hi); clear HK; clear HB; clear HI0; have HK := n0_; have HB := n1_; have HI0 := n2_; clear n0_ n1_ n2_; (try clear hb); (try clear hb2); (try clear hk); (try clear hi)))
  go_loopg [5, 6] k (fun kq v5 v6 w' => ∃ (x5_1 : List (S34)) (x6_1 : Int) (x1001_1 : Int), v6 = .int .i64 x6_1 ∧ Aside0 (keyeventplay_Happenings.l0 kq x5_1 x6_1 s0_0 x1001_1 = some (r1, r2)) ∧ Aside0 (kq ≤ k) ∧ Aside0 (Kd.R k34 34 w' w.heap.size (fun _ => True) v5 x5_1) ∧ Aside0 (IsS54 w0 w' g s0_0 x1001_1) ∧ Aside0 (KeepBut w w' g none) ∧ Aside0 (Below w0.heap.size w0 w'))
  case atStart => exact ⟨(([] : List (S34))), (t152), (t153), (by first | rfl | (simp; done) | (simp [*]; done)), H', ⟨Nat.le_refl _⟩, ⟨by first | exact Kd.R_nil _ _ _ _ _ | exact Kd.N_nil _ _ _ _ _ | exact Kd.V_nil _ _ _ _ _ | exact Kd.Q_nil _ _ _ _ _ | exact Kd.S_nil _ _ _ _ _⟩, ⟨by repeat (first | (with_reducible first | exact HI0.out | apply IsS54.alloc | apply IsS54.drewN | apply IsS54.drew | apply IsS54.set_1) | exact HI0.out)⟩, ⟨by repeat (first | (with_reducible first | exact HK.out | apply KeepBut.set_ | apply keep_drewN | apply keep_drew | apply keep_alloc) | exact HK.out)⟩, ⟨by repeat (first | (with_reducible first | exact HB.out | apply below_alloc | apply pw_below_drewN | apply below_drew1 | refine below_set ?_ (IsS54.ge HI0.out)) | exact HB.out)⟩⟩
  case round =>
    clear H'
    try clear c1
    try clear p2
    obtain ⟨x5_1, x6_1, x1001_1, rfl, HA, HK1, HO_5, HI0, HK, HB⟩ := hrel
    cases gk with
    | zero => exact absurd HA.out (by simp [keyeventplay_Happenings.l0])
    | succ k1 =>
      have H := HA.out
      clear HA
      simp only [keyeventplay_Happenings.l0] at H
      by_cases c5 : x6_1 > 0
      · rw [if_pos c5] at H
        have c5b0 : decide (0 < x6_1) = true := decide_eq_true c5
        clear c5
        replace H := Option.bind_eq_some_iff.mp H
        obtain ⟨⟨t154, t155⟩, A60, H⟩ := H
        replace H : ((keyeventkit_Dice_Next.f s0_0 t155 7).bind fun bt156 => ((keyeventkit_Dice_Next.f s0_0 bt156.2 9).bind fun bt158 => ((keyeventkit_Dice_Next.f s0_0 bt158.2 300).bind fun bt160 => (if x5_1.length < 4398046511104 then (keyeventplay_Happenings.l0 k1 (x5_1 ++ [(⟨wrap64 (1 + t154), wrap64 (bt156.1 - 1), bt158.1, bt160.1⟩ : S34)]) (wrap64 (x6_1 - 1)) s0_0 bt160.2) else (none))))) = some (r1, r2) := H
        have A6 := Aside0.mk A60
        clear A60
        replace H := Option.bind_eq_some_iff.mp H
        obtain ⟨⟨t156, t157⟩, A70, H⟩ := H
        replace H : ((keyeventkit_Dice_Next.f s0_0 t157 9).bind fun bt158 => ((keyeventkit_Dice_Next.f s0_0 bt158.2 300).bind fun bt160 => (if x5_1.length < 4398046511104 then (keyeventplay_Happenings.l0 k1 (x5_1 ++ [(⟨wrap64 (1 + t154), wrap64 (t156 - 1), bt158.1, bt160.1⟩ : S34)]) (wrap64 (x6_1 - 1)) s0_0 bt160.2) else (none)))) = some (r1, r2) := H
        have A7 := Aside0.mk A70
        clear A70
        replace H := Option.bind_eq_some_iff.mp H
        obtain ⟨⟨t158, t159⟩, A80, H⟩ := H
        replace H : ((keyeventkit_Dice_Next.f s0_0 t159 300).bind fun bt160 => (if x5_1.length < 4398046511104 then (keyeventplay_Happenings.l0 k1 (x5_1 ++ [(⟨wrap64 (1 + t154), wrap64 (t156 - 1), t158, bt160.1⟩ : S34)]) (wrap64 (x6_1 - 1)) s0_0 bt160.2) else (none))) = some (r1, r2) := H
        have A8 := Aside0.mk A80
        clear A80
        replace H := Option.bind_eq_some_iff.mp H
        obtain ⟨⟨t160, t161⟩, A90, H⟩ := H
        replace H : (if x5_1.length < 4398046511104 then (keyeventplay_Happenings.l0 k1 (x5_1 ++ [(⟨wrap64 (1 + t154), wrap64 (t156 - 1), t158, t160⟩ : S34)]) (wrap64 (x6_1 - 1)) s0_0 t161) else (none)) = some (r1, r2) := H
        have A9 := Aside0.mk A90
        clear A90
        by_cases c10 : x5_1.length < 4398046511104
        · rw [if_pos c10] at H
          have LMc10 := Aside0.mk c10
          clear c10
          obtain ⟨y162, hy162⟩ : ∃ y_ : List (S34), y_ = (x5_1 ++ [(⟨wrap64 (1 + t154), wrap64 (t156 - 1), t158, t160⟩ : S34)]) := ⟨_, rfl⟩
          replace H : (keyeventplay_Happenings.l0 k1 y162 (wrap64 (x6_1 - 1)) s0_0 t161) = some (r1, r2) := by first | (rw [hy162]; with_reducible exact H) | (have H2_ := (Option.bind_some _ _).symm.trans H; rw [hy162]; with_reducible exact H2_) | (have H2_ := (Option.bind_some _ _).symm.trans H; with_reducible exact H2_) | with_reducible exact H | (rw [hy162]; exact H) | exact H
          have Ny162 := Aside0.mk hy162
          clear hy162
          have H' := Aside0.mk H
          clear H
          go_wp2_with (first | ((with_reducible refine gate_callee (f := 13) rfl ?_); refine goesL_ (some 17) rfl rfl Try.func13 (by kernel_rfl) rfl #[.pointer (some ⟨g, 0, none⟩), .int .i64 5] rfl (by (try simp only [List.map_toArray, List.map_cons, List.map_nil]); first | done | rfl | (simp only [List.length_drop, List.length_take]; rfl)) ?_; (with_reducible refine (keyeventkit_Dice_Next.calls g s0_0 x1001_1 5 t154 t155 w0 _ ?side1 ?side2 A6.out).mono ?_); (case side1 => repeat (first | (with_reducible first | exact HI0.out | apply IsS54.alloc | apply IsS54.drewN | apply IsS54.drew | apply IsS54.set_1) | exact HI0.out)); (case side2 => repeat (first | (with_reducible first | exact HB.out | apply below_alloc | apply pw_below_drewN | apply below_drew1 | refine below_set ?_ (IsS54.ge HI0.out)) | exact HB.out)); rintro e w11 ⟨rfl, hi, hb, hk⟩; refine ⟨_, rfl, ?_⟩; have n0_ := Aside0.mk (Kd.R_mono (Kd.R_keep (IsS54.apart (show IsS54 w0 _ g s0_0 x1001_1 from by repeat (first | (with_reducible first | exact HI0.out | apply IsS54.alloc | apply IsS54.drewN | apply IsS54.drew | apply IsS54.set_1) | exact HI0.out)) (by (with_reducible repeat (first | apply Kd.R_alloc | apply Kd.R_drewN | apply Kd.R_drew)); exact HO_5.out) (by decide)) hk (fun _ h => h.2)) (fun _ h => h.1)); have n1_ := Aside0.mk (KeepBut.trans (by repeat (first | (with_reducible first | exact HK.out | apply KeepBut.set_ | apply keep_drewN | apply keep_drew | apply keep_alloc) | exact HK.out)) hk (.inl rfl)); have n2_ := Aside0.mk (hb); have n3_ := Aside0.mk (hi); clear HO_5; clear HK; clear HB; clear HI0; have HO_5 := n0_; have HK := n1_; have HB := n2_; have HI0 := n3_; clear n0_ n1_ n2_ n3_; (try clear hb); (try clear hb2); (try clear hk); (try clear hi)) | ((with_reducible refine gate_callee (f := 13) rfl ?_); refine goesL_ (some 20) rfl rfl Try.func13 (by kernel_rfl) rfl #[.pointer (some ⟨g, 0, none⟩), .int .i64 7] rfl (by (try simp only [List.map_toArray, List.map_cons, List.map_nil]); first | done | rfl | (simp only [List.length_drop, List.length_take]; rfl)) ?_; (with_reducible refine (keyeventkit_Dice_Next.calls g s0_0 t155 7 t156 t157 w0 _ ?side1 ?side2 A7.out).mono ?_); (case side1 => repeat (first | (with_reducible first | exact HI0.out | apply IsS54.alloc | apply IsS54.drewN | apply IsS54.drew | apply IsS54.set_1) | exact HI0.out)); (case side2 => repeat (first | (with_reducible first | exact HB.out | apply below_alloc | apply pw_below_drewN | apply below_drew1 | refine below_set ?_ (IsS54.ge HI0.out)) | exact HB.out)); rintro e w12 ⟨rfl, hi, hb, hk⟩; refine ⟨_, rfl, ?_⟩; have n0_ := Aside0.mk (Kd.R_mono (Kd.R_keep (IsS54.apart (show IsS54 w0 _ g s0_0 t155 from by repeat (first | (with_reducible first | exact HI0.out | apply IsS54.alloc | apply IsS54.drewN | apply IsS54.drew | apply IsS54.set_1) | exact HI0.out)) (by (with_reducible repeat (first | apply Kd.R_alloc | apply Kd.R_drewN | apply Kd.R_drew)); exact HO_5.out) (by decide)) hk (fun _ h => h.2)) (fun _ h => h.1)); have n1_ := Aside0.mk (KeepBut.trans (by repeat (first | (with_reducible first | exact HK.out | apply KeepBut.set_ | apply keep_drewN | apply keep_drew | apply keep_alloc) | exact HK.out)) hk (.inl rfl)); have n2_ := Aside0.mk (hb); have n3_ := Aside0.mk (hi); clear HO_5; clear HK; clear HB; clear HI0; have HO_5 := n0_; have HK := n1_; have HB := n2_; have HI0 := n3_; clear n0_ n1_ n2_ n3_; (try clear hb); (try clear hb2); (try clear hk); (try clear hi)) | ((with_reducible refine gate_callee (f := 13) rfl ?_); refine goesL_ (some 23) rfl rfl Try.func13 (by kernel_rfl) rfl #[.pointer (some ⟨g, 0, none⟩), .int .i64 9] rfl (by (try simp only [List.map_toArray, List.map_cons, List.map_nil]); first | done | rfl | (simp only [List.length_drop, List.length_take]; rfl)) ?_; (with_reducible refine (keyeventkit_Dice_Next.calls g s0_0 t157 9 t158 t159 w0 _ ?side1 ?side2 A8.out).mono ?_); (case side1 => repeat (first | (with_reducible first | exact HI0.out | apply IsS54.alloc | apply IsS54.drewN | apply IsS54.drew | apply IsS54.set_1) | exact HI0.out)); (case side2 => repeat (first | (with_reducible first | exact HB.out | apply below_alloc | apply pw_below_drewN | apply below_drew1 | refine below_set ?_ (IsS54.ge HI0.out)) | exact HB.out)); rintro e w13 ⟨rfl, hi, hb, hk⟩; refine ⟨_, rfl, ?_⟩; have n0_ := Aside0.mk (Kd.R_mono (Kd.R_keep (IsS54.apart (show IsS54 w0 _ g s0_0 t157 from by repeat (first | (with_reducible first | exact HI0.out | apply IsS54.alloc | apply IsS54.drewN | apply IsS54.drew | apply IsS54.set_1) | exact HI0.out)) (by (with_reducible repeat (first | apply Kd.R_alloc | apply Kd.R_drewN | apply Kd.R_drew)); exact HO_5.out) (by decide)) hk (fun _ h => h.2)) (fun _ h => h.1)); have n1_ := Aside0.mk (KeepBut.trans (by repeat (first | (with_reducible first | exact HK.out | apply KeepBut.set_ | apply keep_drewN | apply keep_drew | apply keep_alloc) | exact HK.out)) hk (.inl rfl)); have n2_ := Aside0.mk (hb); have n3_ := Aside0.mk (hi); clear HO_5; clear HK; clear HB; clear HI0; have HO_5 := n0_; have HK := n1_; have HB := n2_; have HI0 := n3_; clear n0_ n1_ n2_ n3_; (try clear hb); (try clear hb2); (try clear hk); (try clear hi)) | ((with_reducible refine gate_callee (f := 13) rfl ?_); refine goesL_ (some 25) rfl rfl Try.func13 (by kernel_rfl) rfl #[.pointer (some ⟨g, 0, none⟩), .int .i64 300] rfl (by (try simp only [List.map_toArray, List.map_cons, List.map_nil]); first | done | rfl | (simp only [List.length_drop, List.length_take]; rfl)) ?_; (with_reducible refine (keyeventkit_Dice_Next.calls g s0_0 t159 300 t160 t161 w0 _ ?side1 ?side2 A9.out).mono ?_); (case side1 => repeat (first | (with_reducible first | exact HI0.out | apply IsS54.alloc | apply IsS54.drewN | apply IsS54.drew | apply IsS54.set_1) | exact HI0.out)); (case side2 => repeat (first | (with_reducible first | exact HB.out | apply below_alloc | apply pw_below_drewN | apply below_drew1 | refine below_set ?_ (IsS54.ge HI0.out)) | exact HB.out)); rintro e w14 ⟨rfl, hi, hb, hk⟩; refine ⟨_, rfl, ?_⟩; have n0_ := Aside0.mk (Kd.R_mono (Kd.R_keep (IsS54.apart (show IsS54 w0 _ g s0_0 t159 from by repeat (first | (with_reducible first | exact HI0.out | apply IsS54.alloc | apply IsS54.drewN | apply IsS54.drew | apply IsS54.set_1) | exact HI0.out)) (by (with_reducible repeat (first | apply Kd.R_alloc | apply Kd.R_drewN | apply Kd.R_drew)); exact HO_5.out) (by decide)) hk (fun _ h => h.2)) (fun _ h => h.1)); have n1_ := Aside0.mk (KeepBut.trans (by repeat (first | (with_reducible first | exact HK.out | apply KeepBut.set_ | apply keep_drewN | apply keep_drew | apply keep_alloc) | exact HK.out)) hk (.inl rfl)); have n2_ := Aside0.mk (hb); have n3_ := Aside0.mk (hi); clear HO_5; clear HK; clear HB; clear HI0; have HO_5 := n0_; have HK := n1_; have HB := n2_; have HI0 := n3_; clear n0_ n1_ n2_ n3_; (try clear hb); (try clear hb2); (try clear hk); (try clear hi)) | ((with_reducible refine gate_builtin (b := .append) (xs := #[.tmp 15, .tmp 27]) rfl ?_); at_builtin; refine Kd.R_append k34 w.heap.size rfl (.tmp 15) (.tmp 27) 31 34 (.agg #[(.int .i64 0), (.int .i64 0), (.int .i64 0), (.int .i64 0)]) 32 rfl Try.underlying31 info34 rfl (by decide) (by omega) u5 x5_1 (⟨wrap64 (1 + t154), wrap64 (t156 - 1), t158, t160⟩ : S34) [.int .i64 (wrap64 (1 + t154)), .int .i64 (wrap64 (t156 - 1)), .int .i64 t158, .int .i64 t160] (fun _ => True) (fun _ => False) rfl rfl ?aP (fun _ hk => hk.elim) ?aF ?aO (Below.refl _ _) ?aS ?aL ?_; (case aP => exact k34_mkM _ _ _ (⟨wrap64 (1 + t154), wrap64 (t156 - 1), t158, t160⟩ : S34)); (case aF => exact (fun _ _ => trivial)); (case aO => exact (by (with_reducible repeat (first | apply Kd.R_alloc | apply Kd.R_drewN | apply Kd.R_drew)); exact HO_5.out)); (case aS => exact (keep_size (w := w) (g := g) (row := none) (by repeat (first | (with_reducible first | exact HK.out | apply KeepBut.set_ | apply keep_drewN | apply keep_drew | apply keep_alloc) | exact HK.out)))); (case aL => have := LMc10.out; omega); intro v163 w15 ho hb hg hat; rw [← Ny162.out] at ho; have n0_ := Aside0.mk (IsS54.grown (by repeat (first | (with_reducible first | exact HI0.out | apply IsS54.alloc | apply IsS54.drewN | apply IsS54.drew | apply IsS54.set_1) | exact HI0.out)) hg (IsS54.own_ne HI0.out HO_5.out (by decide))); have n1_ := Aside0.mk (below_weaken (by repeat (first | (with_reducible first | exact HB.out | apply below_alloc | apply pw_below_drewN | apply below_drew1 | refine below_set ?_ (IsS54.ge HI0.out)) | exact HB.out)) HL.out hb); have n2_ := Aside0.mk (KeepBut.trans (by repeat (first | (with_reducible first | exact HK.out | apply KeepBut.set_ | apply keep_drewN | apply keep_drew | apply keep_alloc) | exact HK.out)) (KeepBut.of_grown hg g) (Kd.R_base2 HO_5.out)); have n3_ := Aside0.mk (ho); clear HI0; clear HB; clear HK; clear HO_5; have HI0 := n0_; have HB := n1_; have HK := n2_; have HO164 := n3_; clear n0_ n1_ n2_ n3_; clear ho hb hg hat))
          go_roundg k1
          case measure => have := HK1.out; omega
          case rel => exact ⟨(y162), (wrap64 (x6_1 - 1)), (t161), (by first | rfl | (simp; done) | (simp [*]; done)), H', ⟨by have := HK1.out; omega⟩, ⟨by (with_reducible repeat (first | apply Kd.R_alloc | apply Kd.R_drewN | apply Kd.R_drew)); exact HO164.out⟩, ⟨by repeat (first | (with_reducible first | exact HI0.out | apply IsS54.alloc | apply IsS54.drewN | apply IsS54.drew | apply IsS54.set_1) | exact HI0.out)⟩, ⟨by repeat (first | (with_reducible first | exact HK.out | apply KeepBut.set_ | apply keep_drewN | apply keep_drew | apply keep_alloc) | exact HK.out)⟩, ⟨by repeat (first | (with_reducible first | exact HB.out | apply below_alloc | apply pw_below_drewN | apply below_drew1 | refine below_set ?_ (IsS54.ge HI0.out)) | exact HB.out)⟩⟩
        · rw [if_neg c10] at H
          exact absurd H (by simp)
      · rw [if_neg c5] at H
        have c5b0 : decide (0 < x6_1) = false := decide_eq_false c5
        clear c5
        simp only [Option.some.injEq, Prod.mk.injEq] at H
        obtain ⟨rfl, rfl⟩ := H
        go_wp2
        go_ret
        exact ⟨_, by first | rfl | (simp [errW_none, errW_some] <;> rfl) | (simp [*, errW_none, errW_some] <;> rfl), by (with_reducible repeat (first | apply Kd.R_alloc | apply Kd.R_drewN | apply Kd.R_drew)); exact HO_5.out, by repeat (first | (with_reducible first | exact HI0.out | apply IsS54.alloc | apply IsS54.drewN | apply IsS54.drew | apply IsS54.set_1) | exact HI0.out), by repeat (first | (with_reducible first | exact HB.out | apply below_alloc | apply pw_below_drewN | apply below_drew1 | refine below_set ?_ (IsS54.ge HI0.out)) | exact HB.out), by repeat (first | (with_reducible first | exact HK.out | apply KeepBut.set_ | apply keep_drewN | apply keep_drew | apply keep_alloc) | exact HK.out)⟩

-- NOT PRINTED: function 33 (keyeventref42_CopyOf)

-- NOT PRINTED: function 15 (keyeventref42_Send)

end Go.Proofs.Ytkcijghflaoccaa.PNetworkAll
