/- The walk of PoolNumbers: it answers true whatever the four numbers are. -/
import Derived.Test.YtphpamjilmdjmaaNum
import Derived.LoopTactic

namespace Go.Proofs.Ytphpamjilmdjmaa.Num
open Go.RowKit
set_option linter.unusedVariables false
set_option linter.unusedSimpArgs false

theorem below_drewN {B : Nat} {a w : World} (h : Below B a w) (n : Nat) : Below B a (w.drewN n) := ⟨h.os, h.tape, h.output, h.size, h.block⟩

set_option maxRecDepth 100000 in
set_option maxHeartbeats 1000000 in
theorem numbers_any (a b c d : Int) (w : World) (ha : -9223372036854775808 ≤ a) (ha' : a ≤ 9223372036854775807) (hb : -9223372036854775808 ≤ b) (hb' : b ≤ 9223372036854775807)
    (hc : -9223372036854775808 ≤ c) (hc' : c ≤ 9223372036854775807) (hd : -9223372036854775808 ≤ d) (hd' : d ≤ 9223372036854775807) :
    Calls Try.prog 4 #[.int .i64 a, .int .i64 b, .int .i64 c, .int .i64 d] w fun e w' => e = .returned (.bool true) ∧ Below w.heap.size w w' := by
  have n1 := modv_bd a 1073741825 (by omega)
  have n2 := modv_bd b 1073741825 (by omega)
  have n3 := modv_bd c 1073741825 (by omega)
  have n4 := modv_bd d 1073741825 (by omega)
  have m1 := modv_bd a 12 (by omega)
  have m2 := modv_bd b 12 (by omega)
  have m3 := modv_bd c 12 (by omega)
  have m4 := modv_bd d 6 (by omega)
  go_enter Try.func4, Try.ntmps4
  go_wp2_with (go_at_call 9; refine (mod_any _ _ _ (by assumption) (by assumption) (by omega) (by omega)).mono ?_; rintro e w' ⟨rfl, rfl⟩)
  generalize modv a 1073741825 = p0 at *
  generalize modv b 1073741825 = p1 at *
  generalize modv c 1073741825 = p2 at *
  generalize modv d 1073741825 = p3 at *
  generalize modv a 12 = p4 at *
  generalize modv b 12 = p5 at *
  generalize modv c 12 = p6 at *
  generalize modv d 6 = p7 at *
  have n := n1.1; have n := n1.2; have n := n2.1; have n := n2.2; have n := n3.1; have n := n3.2; have n := n4.1; have n := n4.2
  have n := m1.1; have n := m1.2; have n := m2.1; have n := m2.2; have n := m3.1; have n := m3.2; have n := m4.1; have n := m4.2
  clear n1 n2 n3 n4 m1 m2 m3 m4 ha ha' hb hb' hc hc' hd hd'
  obtain ⟨W, hW⟩ : ∃ W : World, w.alloc (Obj.cells #[.int .i64 p0, .int .i64 p1, .int .i64 p2, .int .i64 p3, .int .i64 p4, .int .i64 p5, .int .i64 p6, .int .i64 (p7 - 1)] 27) = W := ⟨_, rfl⟩
  have hz : W.heap.size = w.heap.size + 1 := by rw [← hW]; simp
  rw [hW]
  have hfin : ∀ V : World, Below W.heap.size W V → Below w.heap.size w V := fun V h => by
    rw [← hW] at h
    exact ((Below.refl _ _).alloc (Nat.le_refl _) _).trans (h.mono (by simp))
  go_loopw [44] (fun i wr => (i = .int .i64 0 ∨ i = .int .i64 1 ∨ i = .int .i64 2) ∧ Below W.heap.size W wr) (fun i _ => 2 - (intOf i).toNat)
  case atStart => exact ⟨Or.inl rfl, Below.refl _ _⟩
  case round =>
    obtain ⟨hi, hb⟩ := hrel
    have hcell : ∀ o, wr.cell? ⟨w.heap.size, o, none⟩ = W.cell? ⟨w.heap.size, o, none⟩ := fun o => hb.cell (p := ⟨w.heap.size, o, none⟩) (by show w.heap.size < _; omega)
    have c0 : wr.cell? ⟨w.heap.size, 0, none⟩ = some (.int .i64 p0) := by rw [hcell, ← hW]; simp
    have c1 : wr.cell? ⟨w.heap.size, 1, none⟩ = some (.int .i64 p1) := by rw [hcell, ← hW]; simp
    have c2 : wr.cell? ⟨w.heap.size, 2, none⟩ = some (.int .i64 p2) := by rw [hcell, ← hW]; simp
    have c3 : wr.cell? ⟨w.heap.size, 3, none⟩ = some (.int .i64 p3) := by rw [hcell, ← hW]; simp
    have c4 : wr.cell? ⟨w.heap.size, 4, none⟩ = some (.int .i64 p4) := by rw [hcell, ← hW]; simp
    have c5 : wr.cell? ⟨w.heap.size, 5, none⟩ = some (.int .i64 p5) := by rw [hcell, ← hW]; simp
    have c6 : wr.cell? ⟨w.heap.size, 6, none⟩ = some (.int .i64 p6) := by rw [hcell, ← hW]; simp
    have c7 : wr.cell? ⟨w.heap.size, 7, none⟩ = some (.int .i64 (p7 - 1)) := by rw [hcell, ← hW]; simp
    clear hcell hW
    rcases hi with rfl | rfl | rfl
    · go_wp2_with (first | (go_at_call 10; refine (best_any p0 _ (by omega) (by omega)).mono ?_; rintro e w' ⟨rfl, rfl⟩) | (go_at_call 11; refine (best_ref p0 _ (by omega) (by omega)).mono ?_; rintro e w' ⟨rfl, rfl⟩))
      go_quiet ((first | (go_at_call 12; exact still (fun W => overlap_any p0 p1 p2 W (by omega) (by omega) (by omega) (by omega) (by omega) (by omega))) | (go_at_call 13; exact still (fun W => overlap_ref p0 p1 p2 W (by omega) (by omega) (by omega) (by omega) (by omega) (by omega))) | (go_at_call 7; exact still (fun W => safe_any p0 p1 p3 W (by omega) (by omega) (by omega) (by omega) (by omega) (by omega))) | (go_at_call 14; exact still (fun W => safe_ref p0 p1 p3 W (by omega) (by omega) (by omega) (by omega) (by omega) (by omega))) | (go_at_call 15; exact still (fun W => alive_any p0 p1 p3 W (by omega) (by omega) (by omega) (by omega) (by omega) (by omega))) | (go_at_call 16; exact still (fun W => alive_ref p0 p1 p3 W (by omega) (by omega) (by omega) (by omega) (by omega) (by omega)))))
      go_wp2
      go_roundw
      case rel => exact ⟨Or.inr (Or.inl rfl), below_drewN (hb.alloc hb.size _) _⟩
      case measure => simp [intOf]
    · go_wp2_with (first | (go_at_call 10; refine (best_any p4 _ (by omega) (by omega)).mono ?_; rintro e w' ⟨rfl, rfl⟩) | (go_at_call 11; refine (best_ref p4 _ (by omega) (by omega)).mono ?_; rintro e w' ⟨rfl, rfl⟩))
      go_quiet ((first | (go_at_call 12; exact still (fun W => overlap_any p4 p5 p6 W (by omega) (by omega) (by omega) (by omega) (by omega) (by omega))) | (go_at_call 13; exact still (fun W => overlap_ref p4 p5 p6 W (by omega) (by omega) (by omega) (by omega) (by omega) (by omega))) | (go_at_call 7; exact still (fun W => safe_any p4 p5 (p7 - 1) W (by omega) (by omega) (by omega) (by omega) (by omega) (by omega))) | (go_at_call 14; exact still (fun W => safe_ref p4 p5 (p7 - 1) W (by omega) (by omega) (by omega) (by omega) (by omega) (by omega))) | (go_at_call 15; exact still (fun W => alive_any p4 p5 (p7 - 1) W (by omega) (by omega) (by omega) (by omega) (by omega) (by omega))) | (go_at_call 16; exact still (fun W => alive_ref p4 p5 (p7 - 1) W (by omega) (by omega) (by omega) (by omega) (by omega) (by omega)))))
      go_wp2
      go_roundw
      case rel => exact ⟨Or.inr (Or.inr rfl), below_drewN (hb.alloc hb.size _) _⟩
      case measure => simp [intOf]
    · go_wp2_with (go_at_call 8; refine (awake_any _).mono ?_; rintro e w' ⟨rfl, rfl⟩)
      go_ret
      exact ⟨rfl, hfin _ hb⟩
end Go.Proofs.Ytphpamjilmdjmaa.Num
