/- Do: what it answers where it refuses. -/
import Derived.Test.YtkcijghflaoccaaNf
namespace Go.Proofs.Ytkcijghflaoccaa.Nw
open Go.RowKit Go.Proofs.Ytkcijghflaoccaa.Ow Go.Proofs.Ytkcijghflaoccaa.PNetworkAll
set_option linter.unusedVariables false
set_option linter.unusedSimpArgs false

set_option maxRecDepth 20000 in
set_option maxHeartbeats 400000 in
theorem do_lo (p : Int) (A : Option Addr) (n c : Nat) (xs : List S39) (K h1 h2 h3 : Int) (w : World) (hr : Rd dk w (.slice A n c) xs) (hl : xs.length < 64)
    (hK : K < 1) :
    Calls Try.prog 12 #[.agg #[.int .i64 p, .slice A n c], .agg #[.int .i64 K, .int .i64 h1, .int .i64 h2, .int .i64 h3]] w fun e w' => DoIs w e w' p (xs, [], 56) := by
  have hn := hr.len
  have hcap := hr.cap
  have H := Lib.hid hr
  clear hr
  subst hn
  go_enter Try.func12, Try.ntmps12
  go_wp2_with fail
  refine (copied_any p A xs.length c xs _ (rd_step H.out (by repeat (first | exact Below.refl _ _ | with_reducible apply bel_drew | with_reducible apply bel_drewN | with_reducible apply bel_alloc | (with_reducible refine bel_set ?_ (by first | omega | (simp <;> omega)) _) | (with_reducible refine bel_step ?_ (by assumption)) | (with_reducible refine bel_step ?_ (grown_none (by assumption)))))) (by omega)).mono ?_
  rintro e w1 ⟨A1, c1, rfl, ho, hb⟩
  have hz := hb.size
  simp at hz
  obtain ⟨hc, hf⟩ := bcell hb
  have k0 : w1.cell? ⟨w.heap.size, 0, none⟩ = some (.int .i64 p) := (hc _ _ (by first | omega | (simp <;> omega))).trans (by go_simp)
  have kf0 : w1.frozen? ⟨w.heap.size, 0, none⟩ = false := (hf _ _ (by first | omega | (simp <;> omega))).trans (by go_simp)
  have k1 : w1.cell? ⟨w.heap.size, 1, none⟩ = some (.slice A xs.length c) := (hc _ _ (by first | omega | (simp <;> omega))).trans (by go_simp)
  have kf1 : w1.frozen? ⟨w.heap.size, 1, none⟩ = false := (hf _ _ (by first | omega | (simp <;> omega))).trans (by go_simp)
  have k2 : w1.cell? ⟨w.heap.size + 1, 0, none⟩ = some (.int .i64 K) := (hc _ _ (by first | omega | (simp <;> omega))).trans (by go_simp)
  have kf2 : w1.frozen? ⟨w.heap.size + 1, 0, none⟩ = false := (hf _ _ (by first | omega | (simp <;> omega))).trans (by go_simp)
  have k3 : w1.cell? ⟨w.heap.size + 1, 1, none⟩ = some (.int .i64 h1) := (hc _ _ (by first | omega | (simp <;> omega))).trans (by go_simp)
  have kf3 : w1.frozen? ⟨w.heap.size + 1, 1, none⟩ = false := (hf _ _ (by first | omega | (simp <;> omega))).trans (by go_simp)
  have k4 : w1.cell? ⟨w.heap.size + 1, 2, none⟩ = some (.int .i64 h2) := (hc _ _ (by first | omega | (simp <;> omega))).trans (by go_simp)
  have kf4 : w1.frozen? ⟨w.heap.size + 1, 2, none⟩ = false := (hf _ _ (by first | omega | (simp <;> omega))).trans (by go_simp)
  have k5 : w1.cell? ⟨w.heap.size + 1, 3, none⟩ = some (.int .i64 h3) := (hc _ _ (by first | omega | (simp <;> omega))).trans (by go_simp)
  have kf5 : w1.frozen? ⟨w.heap.size + 1, 3, none⟩ = false := (hf _ _ (by first | omega | (simp <;> omega))).trans (by go_simp)
  have k6 : w1.cell? ⟨w.heap.size + 1 + 1, 0, none⟩ = some (.int .i64 0) := (hc _ _ (by first | omega | (simp <;> omega))).trans (by go_simp)
  have kf6 : w1.frozen? ⟨w.heap.size + 1 + 1, 0, none⟩ = false := (hf _ _ (by first | omega | (simp <;> omega))).trans (by go_simp)
  have k7 : w1.cell? ⟨w.heap.size + 1 + 1, 1, none⟩ = some (.slice none 0 0) := (hc _ _ (by first | omega | (simp <;> omega))).trans (by go_simp)
  have kf7 : w1.frozen? ⟨w.heap.size + 1 + 1, 1, none⟩ = false := (hf _ _ (by first | omega | (simp <;> omega))).trans (by go_simp)
  clear hc hf
  have lt0 : w.heap.size < w1.heap.size := (by omega)
  have lt1 : w.heap.size < w1.heap.size + 1 := (by omega)
  have lt2 : w.heap.size < w1.heap.size + 1 + 1 := (by omega)
  have lt3 : w.heap.size < w1.heap.size + 1 + 1 + 1 := (by omega)
  have lt4 : w.heap.size + 1 < w1.heap.size := (by omega)
  have lt5 : w.heap.size + 1 < w1.heap.size + 1 := (by omega)
  have lt6 : w.heap.size + 1 < w1.heap.size + 1 + 1 := (by omega)
  have lt7 : w.heap.size + 1 < w1.heap.size + 1 + 1 + 1 := (by omega)
  have lt8 : w.heap.size + 1 + 1 < w1.heap.size := (by omega)
  have lt9 : w.heap.size + 1 + 1 < w1.heap.size + 1 := (by omega)
  have lt10 : w.heap.size + 1 + 1 < w1.heap.size + 1 + 1 := (by omega)
  have lt11 : w.heap.size + 1 + 1 < w1.heap.size + 1 + 1 + 1 := (by omega)
  have HB := Lib.hid (fun k (hk : (Value.slice A1 xs.length c1).ownBlock = some k) => (show w.heap.size + 3 ≤ k ∧ k < w1.heap.size by have := ho.block k hk; simp at this; omega))
  have HO := Lib.hid (ho.lower (B' := w.heap.size) (by first | omega | (simp <;> omega)))
  clear ho
  go_wp2
  refine bodyPost_ret (v := .tuple #[.agg #[.int .i64 p, .slice A1 xs.length c1], .slice none 0 0, .int .i64 56]) (by simp [results, Try.results12, go_sem, *]) rfl ⟨A1, c1, _, _, rfl, (by (repeat (first | (with_reducible refine Own.setCell ?_ (fun k hk => by have := HB.out k hk; simp <;> omega) _) | (with_reducible refine own_alloc ?_ _) | (with_reducible refine own_drew ?_) | (with_reducible refine own_drewN ?_ _))); exact HO.out), rd_none _, none_block _, (by repeat (first | exact Below.refl _ _ | with_reducible apply bel_drew | with_reducible apply bel_drewN | with_reducible apply bel_alloc | (with_reducible refine bel_set ?_ (by first | omega | (simp <;> omega)) _) | (with_reducible refine bel_step ?_ (by assumption)) | (with_reducible refine bel_step ?_ (grown_none (by assumption)))))⟩

set_option maxRecDepth 20000 in
set_option maxHeartbeats 400000 in
theorem do_hi (p : Int) (A : Option Addr) (n c : Nat) (xs : List S39) (K h1 h2 h3 : Int) (w : World) (hr : Rd dk w (.slice A n c) xs) (hl : xs.length < 64)
    (hK : ¬ K < 1) (hK2 : 5 < K) :
    Calls Try.prog 12 #[.agg #[.int .i64 p, .slice A n c], .agg #[.int .i64 K, .int .i64 h1, .int .i64 h2, .int .i64 h3]] w fun e w' => DoIs w e w' p (xs, [], 56) := by
  have hn := hr.len
  have hcap := hr.cap
  have H := Lib.hid hr
  clear hr
  subst hn
  go_enter Try.func12, Try.ntmps12
  go_wp2_with fail
  refine (copied_any p A xs.length c xs _ (rd_step H.out (by repeat (first | exact Below.refl _ _ | with_reducible apply bel_drew | with_reducible apply bel_drewN | with_reducible apply bel_alloc | (with_reducible refine bel_set ?_ (by first | omega | (simp <;> omega)) _) | (with_reducible refine bel_step ?_ (by assumption)) | (with_reducible refine bel_step ?_ (grown_none (by assumption)))))) (by omega)).mono ?_
  rintro e w1 ⟨A1, c1, rfl, ho, hb⟩
  have hz := hb.size
  simp at hz
  obtain ⟨hc, hf⟩ := bcell hb
  have k0 : w1.cell? ⟨w.heap.size, 0, none⟩ = some (.int .i64 p) := (hc _ _ (by first | omega | (simp <;> omega))).trans (by go_simp)
  have kf0 : w1.frozen? ⟨w.heap.size, 0, none⟩ = false := (hf _ _ (by first | omega | (simp <;> omega))).trans (by go_simp)
  have k1 : w1.cell? ⟨w.heap.size, 1, none⟩ = some (.slice A xs.length c) := (hc _ _ (by first | omega | (simp <;> omega))).trans (by go_simp)
  have kf1 : w1.frozen? ⟨w.heap.size, 1, none⟩ = false := (hf _ _ (by first | omega | (simp <;> omega))).trans (by go_simp)
  have k2 : w1.cell? ⟨w.heap.size + 1, 0, none⟩ = some (.int .i64 K) := (hc _ _ (by first | omega | (simp <;> omega))).trans (by go_simp)
  have kf2 : w1.frozen? ⟨w.heap.size + 1, 0, none⟩ = false := (hf _ _ (by first | omega | (simp <;> omega))).trans (by go_simp)
  have k3 : w1.cell? ⟨w.heap.size + 1, 1, none⟩ = some (.int .i64 h1) := (hc _ _ (by first | omega | (simp <;> omega))).trans (by go_simp)
  have kf3 : w1.frozen? ⟨w.heap.size + 1, 1, none⟩ = false := (hf _ _ (by first | omega | (simp <;> omega))).trans (by go_simp)
  have k4 : w1.cell? ⟨w.heap.size + 1, 2, none⟩ = some (.int .i64 h2) := (hc _ _ (by first | omega | (simp <;> omega))).trans (by go_simp)
  have kf4 : w1.frozen? ⟨w.heap.size + 1, 2, none⟩ = false := (hf _ _ (by first | omega | (simp <;> omega))).trans (by go_simp)
  have k5 : w1.cell? ⟨w.heap.size + 1, 3, none⟩ = some (.int .i64 h3) := (hc _ _ (by first | omega | (simp <;> omega))).trans (by go_simp)
  have kf5 : w1.frozen? ⟨w.heap.size + 1, 3, none⟩ = false := (hf _ _ (by first | omega | (simp <;> omega))).trans (by go_simp)
  have k6 : w1.cell? ⟨w.heap.size + 1 + 1, 0, none⟩ = some (.int .i64 0) := (hc _ _ (by first | omega | (simp <;> omega))).trans (by go_simp)
  have kf6 : w1.frozen? ⟨w.heap.size + 1 + 1, 0, none⟩ = false := (hf _ _ (by first | omega | (simp <;> omega))).trans (by go_simp)
  have k7 : w1.cell? ⟨w.heap.size + 1 + 1, 1, none⟩ = some (.slice none 0 0) := (hc _ _ (by first | omega | (simp <;> omega))).trans (by go_simp)
  have kf7 : w1.frozen? ⟨w.heap.size + 1 + 1, 1, none⟩ = false := (hf _ _ (by first | omega | (simp <;> omega))).trans (by go_simp)
  clear hc hf
  have lt0 : w.heap.size < w1.heap.size := (by omega)
  have lt1 : w.heap.size < w1.heap.size + 1 := (by omega)
  have lt2 : w.heap.size < w1.heap.size + 1 + 1 := (by omega)
  have lt3 : w.heap.size < w1.heap.size + 1 + 1 + 1 := (by omega)
  have lt4 : w.heap.size + 1 < w1.heap.size := (by omega)
  have lt5 : w.heap.size + 1 < w1.heap.size + 1 := (by omega)
  have lt6 : w.heap.size + 1 < w1.heap.size + 1 + 1 := (by omega)
  have lt7 : w.heap.size + 1 < w1.heap.size + 1 + 1 + 1 := (by omega)
  have lt8 : w.heap.size + 1 + 1 < w1.heap.size := (by omega)
  have lt9 : w.heap.size + 1 + 1 < w1.heap.size + 1 := (by omega)
  have lt10 : w.heap.size + 1 + 1 < w1.heap.size + 1 + 1 := (by omega)
  have lt11 : w.heap.size + 1 + 1 < w1.heap.size + 1 + 1 + 1 := (by omega)
  have HB := Lib.hid (fun k (hk : (Value.slice A1 xs.length c1).ownBlock = some k) => (show w.heap.size + 3 ≤ k ∧ k < w1.heap.size by have := ho.block k hk; simp at this; omega))
  have HO := Lib.hid (ho.lower (B' := w.heap.size) (by first | omega | (simp <;> omega)))
  clear ho
  go_wp2
  refine bodyPost_ret (v := .tuple #[.agg #[.int .i64 p, .slice A1 xs.length c1], .slice none 0 0, .int .i64 56]) (by simp [results, Try.results12, go_sem, *]) rfl ⟨A1, c1, _, _, rfl, (by (repeat (first | (with_reducible refine Own.setCell ?_ (fun k hk => by have := HB.out k hk; simp <;> omega) _) | (with_reducible refine own_alloc ?_ _) | (with_reducible refine own_drew ?_) | (with_reducible refine own_drewN ?_ _))); exact HO.out), rd_none _, none_block _, (by repeat (first | exact Below.refl _ _ | with_reducible apply bel_drew | with_reducible apply bel_drewN | with_reducible apply bel_alloc | (with_reducible refine bel_set ?_ (by first | omega | (simp <;> omega)) _) | (with_reducible refine bel_step ?_ (by assumption)) | (with_reducible refine bel_step ?_ (grown_none (by assumption)))))⟩

set_option maxRecDepth 20000 in
set_option maxHeartbeats 400000 in
theorem do_empty (p : Int) (A : Option Addr) (n c : Nat) (xs : List S39) (K h1 h2 h3 : Int) (w : World) (hr : Rd dk w (.slice A n c) xs) (hl : xs.length < 64)
    (hK : ¬ K < 1) (hK2 : ¬ 5 < K) (h0 : xs.length = 0) :
    Calls Try.prog 12 #[.agg #[.int .i64 p, .slice A n c], .agg #[.int .i64 K, .int .i64 h1, .int .i64 h2, .int .i64 h3]] w fun e w' => DoIs w e w' p (xs, [], 5) := by
  have hn := hr.len
  have hcap := hr.cap
  have H := Lib.hid hr
  clear hr
  subst hn
  have H0 : ((xs.length : Int) == 0) = true := by simp; exact List.eq_nil_of_length_eq_zero h0
  clear h0
  go_enter Try.func12, Try.ntmps12
  go_wp2_with fail
  refine (copied_any p A xs.length c xs _ (rd_step H.out (by repeat (first | exact Below.refl _ _ | with_reducible apply bel_drew | with_reducible apply bel_drewN | with_reducible apply bel_alloc | (with_reducible refine bel_set ?_ (by first | omega | (simp <;> omega)) _) | (with_reducible refine bel_step ?_ (by assumption)) | (with_reducible refine bel_step ?_ (grown_none (by assumption)))))) (by omega)).mono ?_
  rintro e w1 ⟨A1, c1, rfl, ho, hb⟩
  have hz := hb.size
  simp at hz
  obtain ⟨hc, hf⟩ := bcell hb
  have k0 : w1.cell? ⟨w.heap.size, 0, none⟩ = some (.int .i64 p) := (hc _ _ (by first | omega | (simp <;> omega))).trans (by go_simp)
  have kf0 : w1.frozen? ⟨w.heap.size, 0, none⟩ = false := (hf _ _ (by first | omega | (simp <;> omega))).trans (by go_simp)
  have k1 : w1.cell? ⟨w.heap.size, 1, none⟩ = some (.slice A xs.length c) := (hc _ _ (by first | omega | (simp <;> omega))).trans (by go_simp)
  have kf1 : w1.frozen? ⟨w.heap.size, 1, none⟩ = false := (hf _ _ (by first | omega | (simp <;> omega))).trans (by go_simp)
  have k2 : w1.cell? ⟨w.heap.size + 1, 0, none⟩ = some (.int .i64 K) := (hc _ _ (by first | omega | (simp <;> omega))).trans (by go_simp)
  have kf2 : w1.frozen? ⟨w.heap.size + 1, 0, none⟩ = false := (hf _ _ (by first | omega | (simp <;> omega))).trans (by go_simp)
  have k3 : w1.cell? ⟨w.heap.size + 1, 1, none⟩ = some (.int .i64 h1) := (hc _ _ (by first | omega | (simp <;> omega))).trans (by go_simp)
  have kf3 : w1.frozen? ⟨w.heap.size + 1, 1, none⟩ = false := (hf _ _ (by first | omega | (simp <;> omega))).trans (by go_simp)
  have k4 : w1.cell? ⟨w.heap.size + 1, 2, none⟩ = some (.int .i64 h2) := (hc _ _ (by first | omega | (simp <;> omega))).trans (by go_simp)
  have kf4 : w1.frozen? ⟨w.heap.size + 1, 2, none⟩ = false := (hf _ _ (by first | omega | (simp <;> omega))).trans (by go_simp)
  have k5 : w1.cell? ⟨w.heap.size + 1, 3, none⟩ = some (.int .i64 h3) := (hc _ _ (by first | omega | (simp <;> omega))).trans (by go_simp)
  have kf5 : w1.frozen? ⟨w.heap.size + 1, 3, none⟩ = false := (hf _ _ (by first | omega | (simp <;> omega))).trans (by go_simp)
  have k6 : w1.cell? ⟨w.heap.size + 1 + 1, 0, none⟩ = some (.int .i64 0) := (hc _ _ (by first | omega | (simp <;> omega))).trans (by go_simp)
  have kf6 : w1.frozen? ⟨w.heap.size + 1 + 1, 0, none⟩ = false := (hf _ _ (by first | omega | (simp <;> omega))).trans (by go_simp)
  have k7 : w1.cell? ⟨w.heap.size + 1 + 1, 1, none⟩ = some (.slice none 0 0) := (hc _ _ (by first | omega | (simp <;> omega))).trans (by go_simp)
  have kf7 : w1.frozen? ⟨w.heap.size + 1 + 1, 1, none⟩ = false := (hf _ _ (by first | omega | (simp <;> omega))).trans (by go_simp)
  clear hc hf
  have lt0 : w.heap.size < w1.heap.size := (by omega)
  have lt1 : w.heap.size < w1.heap.size + 1 := (by omega)
  have lt2 : w.heap.size < w1.heap.size + 1 + 1 := (by omega)
  have lt3 : w.heap.size < w1.heap.size + 1 + 1 + 1 := (by omega)
  have lt4 : w.heap.size + 1 < w1.heap.size := (by omega)
  have lt5 : w.heap.size + 1 < w1.heap.size + 1 := (by omega)
  have lt6 : w.heap.size + 1 < w1.heap.size + 1 + 1 := (by omega)
  have lt7 : w.heap.size + 1 < w1.heap.size + 1 + 1 + 1 := (by omega)
  have lt8 : w.heap.size + 1 + 1 < w1.heap.size := (by omega)
  have lt9 : w.heap.size + 1 + 1 < w1.heap.size + 1 := (by omega)
  have lt10 : w.heap.size + 1 + 1 < w1.heap.size + 1 + 1 := (by omega)
  have lt11 : w.heap.size + 1 + 1 < w1.heap.size + 1 + 1 + 1 := (by omega)
  have HB := Lib.hid (fun k (hk : (Value.slice A1 xs.length c1).ownBlock = some k) => (show w.heap.size + 3 ≤ k ∧ k < w1.heap.size by have := ho.block k hk; simp at this; omega))
  have HO := Lib.hid (ho.lower (B' := w.heap.size) (by first | omega | (simp <;> omega)))
  clear ho
  go_wp2
  refine bodyPost_ret (v := .tuple #[.agg #[.int .i64 p, .slice A1 xs.length c1], .slice none 0 0, .int .i64 5]) (by simp [results, Try.results12, go_sem, *]) rfl ⟨A1, c1, _, _, rfl, (by (repeat (first | (with_reducible refine Own.setCell ?_ (fun k hk => by have := HB.out k hk; simp <;> omega) _) | (with_reducible refine own_alloc ?_ _) | (with_reducible refine own_drew ?_) | (with_reducible refine own_drewN ?_ _))); exact HO.out), rd_none _, none_block _, (by repeat (first | exact Below.refl _ _ | with_reducible apply bel_drew | with_reducible apply bel_drewN | with_reducible apply bel_alloc | (with_reducible refine bel_set ?_ (by first | omega | (simp <;> omega)) _) | (with_reducible refine bel_step ?_ (by assumption)) | (with_reducible refine bel_step ?_ (grown_none (by assumption)))))⟩

end Go.Proofs.Ytkcijghflaoccaa.Nw
