/- Contract: a list of packets without one of them. -/
import Derived.Test.YtkcijghflaoccaaNa
namespace Go.Proofs.Ytkcijghflaoccaa.Nw
open Go.RowKit Go.Proofs.Ytkcijghflaoccaa.Ow Go.Proofs.Ytkcijghflaoccaa.PNetworkAll
set_option linter.unusedVariables false
set_option linter.unusedSimpArgs false

set_option maxHeartbeats 400000 in
theorem without_any (k : Nat) (A : Option Addr) (n c : Nat) (xs : List S39) (w : World) (hr : Rd dk w (.slice A n c) xs) (hl : xs.length ≤ 1000000) (hk : k < xs.length) :
    Calls Try.prog 30 #[.slice A n c, .int .i64 k] w fun e w' => Clone w e w' (xs.take k ++ xs.drop (k + 1)) := by
  have hn := hr.len
  have hcap := hr.cap
  have H := Lib.hid hr
  clear hr
  subst hn
  have g1 : IntKind.i64.wrap ((k : Int) + 1) = (k : Int) + 1 := IntWalk.i64_in _ (by omega)
  have g2 : 0 ≤ (k : Int) + 1 := by omega
  have g3 : ((k : Int) + 1).toNat = k + 1 := by omega
  have g4 : k ≤ c := by omega
  have g5 : k + 1 ≤ xs.length := by omega
  have g6 : (k : Int) ≤ c := by omega
  have g7 : (k : Int) + 1 ≤ xs.length := by omega
  have R1 : Rd dk w (.slice A k c) (xs.take k) := by
    have h := H.out.sliced (lo := 0) (hi := k) (by omega) (by omega)
    have e : (if c = 0 then A else A.map (fun x => x.add 0)) = A := by split <;> first | rfl | (cases A <;> simp [Addr.add_zero'])
    simp only [Go.sliced, Nat.zero_mul, Nat.sub_zero, List.drop_zero, e] at h
    exact h
  have R2 : Rd dk w (.slice (if c = k + 1 then A else A.map (fun x => x.add ((k + 1) * 3))) (xs.length - (k + 1)) (c - (k + 1))) (xs.drop (k + 1)) := by
    have h := H.out.sliced (lo := k + 1) (hi := xs.length) (by omega) (by omega)
    rw [List.take_length] at h
    exact h
  have HR1 := Lib.hid R1
  have HR2 := Lib.hid R2
  clear R1 R2
  obtain ⟨i0, hi, hz0, hs0, hz2⟩ := info_parts info39
  go_enter Try.func30, Try.ntmps30
  go_wp2_with fail
  go_region_law (first | (refine step_append_rd (d := dk) (v := .slice none 0 0) (y := .slice A k c) rfl (.const (.slice none 0 0)) (.tmp 7) 27 rfl 39 i0 _ 32 w.heap.size Try.underlying27 hi hz0 hs0 hz2 rfl rfl (Own.nil dk 39 _ _) rfl (rd_step HR1.out (by repeat (first | exact Below.refl _ _ | with_reducible apply bel_drew | with_reducible apply bel_drewN | with_reducible apply bel_alloc | (with_reducible refine bel_set ?_ (by simp <;> omega) _) | (with_reducible refine bel_step ?_ (by assumption)) | (with_reducible refine bel_step ?_ (grown_none (by assumption)))))) (by simp <;> omega) (by unfold maxLen; simp <;> omega) (by first | omega | (simp <;> omega)) k (by simp <;> omega) ?_; intro A1 c1 w1 ho1 hg1 hat1; clear hat1; have hb1 := grown_none hg1; have hz1 := hb1.size; simp at hz1; have HO1 := Lib.hid ho1; clear ho1 hg1) | (refine step_append_rd (d := dk) (v := .slice A1 k c1) (y := .slice (if c = k + 1 then A else A.map (fun x => x.add ((k + 1) * 3))) (xs.length - (k + 1)) (c - (k + 1))) rfl (.tmp 8) (.tmp 12) 27 rfl 39 i0 _ 32 w.heap.size Try.underlying27 hi hz0 hs0 hz2 rfl rfl HO1.out rfl (rd_step HR2.out (by repeat (first | exact Below.refl _ _ | with_reducible apply bel_drew | with_reducible apply bel_drewN | with_reducible apply bel_alloc | (with_reducible refine bel_set ?_ (by simp <;> omega) _) | (with_reducible refine bel_step ?_ (by assumption)) | (with_reducible refine bel_step ?_ (grown_none (by assumption)))))) (by simp <;> omega) (by unfold maxLen; simp <;> omega) (by first | omega | (simp <;> omega)) (xs.length - 1) (by simp <;> omega) ?_; intro A2 c2 w2 ho2 hg2 hat2; clear hat2; have HO2 := Lib.hid ho2; have HG2 := Lib.hid hg2; clear ho2 hg2))
  go_wp2
  all_goals
    go_ret
    refine clone_mk HO2.out ?_
    exact bel_grown (by repeat (first | exact Below.refl _ _ | with_reducible apply bel_drew | with_reducible apply bel_drewN | with_reducible apply bel_alloc | (with_reducible refine bel_set ?_ (by simp <;> omega) _) | (with_reducible refine bel_step ?_ (by assumption)) | (with_reducible refine bel_step ?_ (grown_none (by assumption))))) HG2.out (fun k hk => (HO1.out.block k hk).1)
end Go.Proofs.Ytkcijghflaoccaa.Nw
