/- The law's sanity check is true. -/
import Derived.Test.YtkcijghflaoccaaNu
import Derived.Test.YtkcijghflaoccaaNr
import Derived.Test.YtkcijghflaoccaaNe
import Derived.Deep.RegionHeld3
namespace Go.Proofs.Ytkcijghflaoccaa.Nw
open Go.RowKit Go.Proofs.Ytkcijghflaoccaa.Ow Go.Proofs.Ytkcijghflaoccaa.PNetworkAll
set_option linter.unusedVariables false
set_option linter.unusedSimpArgs false

def pa : S39 := ⟨0, 1, ⟨#[97]⟩⟩
def pb : S39 := ⟨0, 1, ⟨#[98]⟩⟩
def ha : S34 := ⟨4, 0, 0, 0⟩
def hb : S34 := ⟨1, 0, 0, 0⟩
theorem aw1 : newP 2 = 2 ∧ newE 2 = 0 := by decide
theorem aw2 : sendN 2 [] pa = [pa] ∧ sendE 2 pa = 0 := ⟨by kernel_rfl, by decide⟩
theorem aw3 : sendN 2 [pa] pb = [pa, pb] ∧ sendE 2 pb = 0 := ⟨by kernel_rfl, by decide⟩
theorem aw4 : runR [pa, pb] [ha, hb] = ([pa], [pb]) := by kernel_rfl
theorem aw5 : waitP [pa] 1 = 1 := by kernel_rfl
theorem short2 : Short [pa, pb] := fun x hx => by
  simp at hx; rcases hx with rfl | rfl <;> decide
theorem rd_two {w : World} {g : Nat} (hg : g < w.heap.size) (h0 : w.cell? ⟨g, 0, none⟩ = some (.int .i64 4)) (h1 : w.cell? ⟨g, 1, none⟩ = some (.int .i64 0)) (h2 : w.cell? ⟨g, 2, none⟩ = some (.int .i64 0)) (h3 : w.cell? ⟨g, 3, none⟩ = some (.int .i64 0))
    (h4 : w.cell? ⟨g, 4, none⟩ = some (.int .i64 1)) (h5 : w.cell? ⟨g, 5, none⟩ = some (.int .i64 0)) (h6 : w.cell? ⟨g, 6, none⟩ = some (.int .i64 0)) (h7 : w.cell? ⟨g, 7, none⟩ = some (.int .i64 0)) : Rd dh w (.slice (some ⟨g, 0, none⟩) 2 2) [ha, hb] := by
  refine .inr ⟨g, 0, 2, rfl, Nat.le_refl _, by unfold maxLen; omega, hg, fun j u hu => ?_⟩
  rw [Nat.zero_add]
  match j, hu with
  | 0, hu => simp [flat, dh, ha, hb] at hu; rw [h0, hu]
  | 1, hu => simp [flat, dh, ha, hb] at hu; rw [h1, hu]
  | 2, hu => simp [flat, dh, ha, hb] at hu; rw [h2, hu]
  | 3, hu => simp [flat, dh, ha, hb] at hu; rw [h3, hu]
  | 4, hu => simp [flat, dh, ha, hb] at hu; rw [h4, hu]
  | 5, hu => simp [flat, dh, ha, hb] at hu; rw [h5, hu]
  | 6, hu => simp [flat, dh, ha, hb] at hu; rw [h6, hu]
  | 7, hu => simp [flat, dh, ha, hb] at hu; rw [h7, hu]
  | j + 8, hu => simp [flat, dh, ha, hb] at hu

set_option maxRecDepth 20000 in
set_option maxHeartbeats 2000000 in
theorem awake_any (w : World) : Calls Try.prog 8 #[] w fun e w' => e = .returned (.bool true) ∧ Below w.heap.size w w' := by
  go_enter Try.func8, Try.ntmps8
  go_wp2_with fail
  refine (new_any 2 _).mono ?_
  rintro e w1 ⟨A1, c1, rfl, ho1, hb1⟩
  rw [aw1.1, aw1.2]
  have HB1 := Lib.hid (fun k (hk : (Value.slice A1 ([] : List S39).length c1).ownBlock = some k) => ho1.block k hk)
  have HO1 := Lib.hid (show Own dk 39 w1 w.heap.size (.slice A1 0 c1) [] from ho1)
  have hz1 := hb1.size
  clear ho1
  go_wp2_with fail
  have sn := aw2
  refine (send_any 2 A1 0 c1 [] pa _ (rd_step HO1.out.rd (by repeat (first | exact Below.refl _ _ | with_reducible apply bel_drew | with_reducible apply bel_drewN | with_reducible apply bel_alloc | (with_reducible refine bel_set ?_ (by first | omega | (simp <;> omega)) _) | (with_reducible refine bel_step ?_ (by assumption)) | (with_reducible refine bel_step ?_ (grown_none (by assumption)))))) (by decide) (by decide)).mono ?_
  rintro e w2 ⟨A2, c2, rfl, ho2, hb2⟩
  rw [aw2.1] at ho2
  rw [aw2.1, aw2.2]
  clear sn
  have hz2 := hb2.size
  simp at hz2
  obtain ⟨hc2, hf2⟩ := bcell hb2
  have k0 : w2.cell? ⟨w1.heap.size, 0, none⟩ = some (.int .i64 2) := (hc2 _ _ (by first | omega | (simp <;> omega))).trans (by go_simp)
  have kf0 : w2.frozen? ⟨w1.heap.size, 0, none⟩ = false := (hf2 _ _ (by first | omega | (simp <;> omega))).trans (by go_simp)
  have k1 : w2.cell? ⟨w1.heap.size, 1, none⟩ = some (.slice A1 0 c1) := (hc2 _ _ (by first | omega | (simp <;> omega))).trans (by go_simp)
  have kf1 : w2.frozen? ⟨w1.heap.size, 1, none⟩ = false := (hf2 _ _ (by first | omega | (simp <;> omega))).trans (by go_simp)
  clear hc2 hf2
  have HB2 := Lib.hid (show ∀ k, (Value.slice A2 1 c2).ownBlock = some k → w1.heap.size + 1 ≤ k ∧ k < w2.heap.size from fun k hk => by have := ho2.block k hk; simp at this; omega)
  have HO2 := Lib.hid (show Own dk 39 w2 w.heap.size (.slice A2 1 c2) [pa] from ho2.lower (by first | omega | (simp <;> omega)))
  clear ho2
  go_wp2_with fail
  refine (send_any 2 A2 1 c2 [pa] pb _ (Own.rd (e := 39) (B := w.heap.size) (by (repeat (first | (with_reducible refine Own.setCell ?_ (fun k hk => by have := HB2.out k hk; simp <;> omega) _) | (with_reducible refine own_alloc ?_ _) | (with_reducible refine own_drew ?_) | (with_reducible refine own_drewN ?_ _))); exact HO2.out)) (by decide) (by decide)).mono ?_
  rintro e w3 ⟨A3, c3, rfl, ho3, hb3⟩
  rw [aw3.1] at ho3
  rw [aw3.1, aw3.2]
  have hz3 := hb3.size
  simp at hz3
  obtain ⟨hc3, hf3⟩ := bcell hb3
  have m0 : w3.cell? ⟨w1.heap.size, 0, none⟩ = some (.int .i64 2) := (hc3 _ _ (by first | omega | (simp <;> omega))).trans (by go_simp)
  have mf0 : w3.frozen? ⟨w1.heap.size, 0, none⟩ = false := (hf3 _ _ (by first | omega | (simp <;> omega))).trans (by go_simp)
  have m1 : w3.cell? ⟨w1.heap.size, 1, none⟩ = some (.slice A2 1 c2) := (hc3 _ _ (by first | omega | (simp <;> omega))).trans (by go_simp)
  have mf1 : w3.frozen? ⟨w1.heap.size, 1, none⟩ = false := (hf3 _ _ (by first | omega | (simp <;> omega))).trans (by go_simp)
  clear hc3 hf3
  have HB3 := Lib.hid (show ∀ k, (Value.slice A3 2 c3).ownBlock = some k → w2.heap.size ≤ k ∧ k < w3.heap.size from fun k hk => by have := ho3.block k hk; simp at this; omega)
  have HO3 := Lib.hid (show Own dk 39 w3 w.heap.size (.slice A3 2 c3) [pa, pb] from ho3.lower (by first | omega | (simp <;> omega)))
  have lt3 : w1.heap.size < w3.heap.size := by omega
  have lt3' : w1.heap.size < w3.heap.size + 1 := by omega
  clear ho3
  go_wp2_with fail
  refine (run_any 2 A3 2 c3 [pa, pb] (some ⟨w3.heap.size, 0, none⟩) 2 2 [ha, hb] _ (Own.rd (e := 39) (B := w.heap.size) (by (repeat (first | (with_reducible refine Own.setCell ?_ (fun k hk => by have := HB3.out k hk; simp <;> omega) _) | (with_reducible refine own_alloc ?_ _) | (with_reducible refine own_drew ?_) | (with_reducible refine own_drewN ?_ _))); exact HO3.out)) (rd_two (by first | omega | (simp <;> omega)) (by go_simp) (by go_simp) (by go_simp) (by go_simp) (by go_simp) (by go_simp) (by go_simp) (by go_simp)) (by decide) short2).mono ?_
  rintro e w4 ⟨A4, c4, A5, c5, rfl, ho4, ho5, hb4⟩
  rw [aw4] at ho4 ho5
  rw [aw4]
  dsimp only at ho4 ho5 ⊢
  have hz4 := hb4.size
  simp at hz4
  obtain ⟨hc4, hf4⟩ := bcell hb4
  have q0 : w4.cell? ⟨w1.heap.size, 0, none⟩ = some (.int .i64 2) := (hc4 _ _ (by first | omega | (simp <;> omega))).trans (by go_simp)
  have qf0 : w4.frozen? ⟨w1.heap.size, 0, none⟩ = false := (hf4 _ _ (by first | omega | (simp <;> omega))).trans (by go_simp)
  have q1 : w4.cell? ⟨w1.heap.size, 1, none⟩ = some (.slice A3 2 c3) := (hc4 _ _ (by first | omega | (simp <;> omega))).trans (by go_simp)
  have qf1 : w4.frozen? ⟨w1.heap.size, 1, none⟩ = false := (hf4 _ _ (by first | omega | (simp <;> omega))).trans (by go_simp)
  clear hc4 hf4
  have HB4 := Lib.hid (show ∀ k, (Value.slice A4 1 c4).ownBlock = some k → w3.heap.size ≤ k ∧ k < w4.heap.size from fun k hk => by have := ho4.block k hk; simp at this; omega)
  have HO4 := Lib.hid (show Own dk 39 w4 w.heap.size (.slice A4 1 c4) [pa] from ho4.lower (by first | omega | (simp <;> omega)))
  have lt4 : w1.heap.size < w4.heap.size := by omega
  have hfo : ∃ g5, A5 = some ⟨g5, 0, none⟩ ∧ w3.heap.size ≤ g5 ∧ g5 < w4.heap.size ∧ w4.cell? ⟨g5, 2, none⟩ = some (.string ⟨#[98]⟩) := by
    rcases ho5.form with ⟨h, h0⟩ | ⟨g1, c1', cur, hv, _, _, hB, hlt, hh, hs, ht⟩
    · simp at h0
    · simp only [Value.slice.injEq] at hv
      obtain ⟨rfl, _, rfl⟩ := hv
      obtain ⟨g2, o2, e2, _, hc3⟩ := ho5.rd.at_ (i := 0) (x := pb) rfl
      simp only [Option.some.injEq, Addr.mk.injEq] at e2
      obtain ⟨rfl, rfl, _⟩ := e2
      exact ⟨g1, rfl, by simp at hB; omega, hlt, hc3 2 _ rfl⟩
  obtain ⟨g5, rfl, gb1, gb2, gc1⟩ := hfo
  have hne : ¬ g5 = w1.heap.size := by omega
  have hne2 : ¬ w1.heap.size = g5 := by omega
  clear ho4 ho5
  simp only [List.length_cons, List.length_nil, Nat.zero_add]
  go_wp2_with fail
  refine (wait_any 2 1 A4 1 c4 [pa] _ (Own.rd (e := 39) (B := w.heap.size) (by (repeat (first | (with_reducible refine Own.setCell ?_ (fun k hk => by have := HB4.out k hk; simp <;> omega) _) | (with_reducible refine own_alloc ?_ _) | (with_reducible refine own_drew ?_) | (with_reducible refine own_drewN ?_ _))); exact HO4.out)) (by decide)).mono ?_
  rintro e w5 ⟨rfl, hb5⟩
  rw [aw5]
  go_wp2
  go_ret
  exact ⟨rfl, (by repeat (first | exact Below.refl _ _ | with_reducible apply bel_drew | with_reducible apply bel_drewN | with_reducible apply bel_alloc | (with_reducible refine bel_set ?_ (by first | omega | (simp <;> omega)) _) | (with_reducible refine bel_step ?_ (by assumption)) | (with_reducible refine bel_step ?_ (grown_none (by assumption)))))⟩
end Go.Proofs.Ytkcijghflaoccaa.Nw
