/- Contracts: the document's answer for a packet that is sent. -/
import Derived.Test.YtkcijghflaoccaaNd
namespace Go.Proofs.Ytkcijghflaoccaa.Nw
open Go.RowKit Go.Proofs.Ytkcijghflaoccaa.Ow Go.Proofs.Ytkcijghflaoccaa.PNetworkAll
set_option linter.unusedVariables false
set_option linter.unusedSimpArgs false

set_option maxHeartbeats 800000 in
theorem sendr_a (p : Int) (A : Option Addr) (n c : Nat) (xs : List S39) (x : S39) (w : World) (hr : Rd dk w (.slice A n c) xs) (hl : xs.length < 64) (hx : x.f2.size ≤ 100000)
    (a0 : x.f0 < 0) :
    Calls Try.prog 15 #[.agg #[.int .i64 p, .slice A n c], .agg #[.int .i64 x.f0, .int .i64 x.f1, .string x.f2]] w fun e w' => NetE w e w' p (sendN p xs x) (sendE p x) := by
  have hno : (inB x.f0 p && inB x.f1 p) = false := by unfold inB; rw [decide_eq_false (show ¬ 0 ≤ x.f0 by omega)]; simp only [Bool.false_and]
  rw [(send_no hno xs).1, (send_no hno xs).2]
  clear hno
  have hn := hr.len
  have hcap := hr.cap
  have H := Lib.hid hr
  clear hr
  subst hn
  obtain ⟨i0, hi, hz0, hs0, hz2⟩ := info_parts info39
  go_enter Try.func15, Try.ntmps15
  go_wp2_with fail
  refine (copyOf_any p A xs.length c xs _ (rd_step H.out (by repeat (first | exact Below.refl _ _ | with_reducible apply bel_drew | with_reducible apply bel_drewN | with_reducible apply bel_alloc | (with_reducible refine bel_set ?_ (by first | omega | (simp <;> omega)) _) | (with_reducible refine bel_step ?_ (by assumption)) | (with_reducible refine bel_step ?_ (grown_none (by assumption)))))) (by omega)).mono ?_
  rintro e w1 ⟨A1, c1, rfl, ho, hb⟩
  have hz := hb.size
  simp at hz
  obtain ⟨hc, hf⟩ := bcell hb
  have k0 : w1.cell? ⟨w.heap.size, 0, none⟩ = some (.int .i64 p) := (hc _ _ (by first | omega | (simp <;> omega))).trans (by go_simp)
  have kf0 : w1.frozen? ⟨w.heap.size, 0, none⟩ = false := (hf _ _ (by first | omega | (simp <;> omega))).trans (by go_simp)
  have k1 : w1.cell? ⟨w.heap.size, 1, none⟩ = some (.slice A xs.length c) := (hc _ _ (by first | omega | (simp <;> omega))).trans (by go_simp)
  have kf1 : w1.frozen? ⟨w.heap.size, 1, none⟩ = false := (hf _ _ (by first | omega | (simp <;> omega))).trans (by go_simp)
  have k2 : w1.cell? ⟨w.heap.size + 1, 0, none⟩ = some (.int .i64 x.f0) := (hc _ _ (by first | omega | (simp <;> omega))).trans (by go_simp)
  have kf2 : w1.frozen? ⟨w.heap.size + 1, 0, none⟩ = false := (hf _ _ (by first | omega | (simp <;> omega))).trans (by go_simp)
  have k3 : w1.cell? ⟨w.heap.size + 1, 1, none⟩ = some (.int .i64 x.f1) := (hc _ _ (by first | omega | (simp <;> omega))).trans (by go_simp)
  have kf3 : w1.frozen? ⟨w.heap.size + 1, 1, none⟩ = false := (hf _ _ (by first | omega | (simp <;> omega))).trans (by go_simp)
  have k4 : w1.cell? ⟨w.heap.size + 1, 2, none⟩ = some (.string x.f2) := (hc _ _ (by first | omega | (simp <;> omega))).trans (by go_simp)
  have kf4 : w1.frozen? ⟨w.heap.size + 1, 2, none⟩ = false := (hf _ _ (by first | omega | (simp <;> omega))).trans (by go_simp)
  have k5 : w1.cell? ⟨w.heap.size + 1 + 1, 0, none⟩ = some (.int .i64 0) := (hc _ _ (by first | omega | (simp <;> omega))).trans (by go_simp)
  have kf5 : w1.frozen? ⟨w.heap.size + 1 + 1, 0, none⟩ = false := (hf _ _ (by first | omega | (simp <;> omega))).trans (by go_simp)
  have k6 : w1.cell? ⟨w.heap.size + 1 + 1, 1, none⟩ = some (.slice none 0 0) := (hc _ _ (by first | omega | (simp <;> omega))).trans (by go_simp)
  have kf6 : w1.frozen? ⟨w.heap.size + 1 + 1, 1, none⟩ = false := (hf _ _ (by first | omega | (simp <;> omega))).trans (by go_simp)
  clear hc hf
  have lt0 : w.heap.size < w1.heap.size := (by omega)
  have lt1 : w.heap.size < w1.heap.size + 1 := (by omega)
  have lt2 : w.heap.size < w1.heap.size + 1 + 1 := (by omega)
  have lt3 : w.heap.size + 1 < w1.heap.size := (by omega)
  have lt4 : w.heap.size + 1 < w1.heap.size + 1 := (by omega)
  have lt5 : w.heap.size + 1 < w1.heap.size + 1 + 1 := (by omega)
  have lt6 : w.heap.size + 1 + 1 < w1.heap.size := (by omega)
  have lt7 : w.heap.size + 1 + 1 < w1.heap.size + 1 := (by omega)
  have lt8 : w.heap.size + 1 + 1 < w1.heap.size + 1 + 1 := (by omega)
  have HB := Lib.hid (fun k (hk : (Value.slice A1 xs.length c1).ownBlock = some k) => (show w.heap.size + 3 ≤ k ∧ k < w1.heap.size by have := ho.block k hk; simp at this; omega))
  have HO := Lib.hid (ho.lower (B' := w.heap.size) (by first | omega | (simp <;> omega)))
  clear ho
  go_wp2
  refine bodyPost_ret (v := .tuple #[.agg #[.int .i64 p, .slice A1 xs.length c1], .int .i64 2]) (by simp [results, Try.results15, go_sem, *]) rfl ⟨A1, c1, rfl, (by (repeat (first | (with_reducible refine Own.setCell ?_ (fun k hk => by have := HB.out k hk; simp <;> omega) _) | (with_reducible refine own_alloc ?_ _) | (with_reducible refine own_drew ?_) | (with_reducible refine own_drewN ?_ _))); exact HO.out), (by repeat (first | exact Below.refl _ _ | with_reducible apply bel_drew | with_reducible apply bel_drewN | with_reducible apply bel_alloc | (with_reducible refine bel_set ?_ (by first | omega | (simp <;> omega)) _) | (with_reducible refine bel_step ?_ (by assumption)) | (with_reducible refine bel_step ?_ (grown_none (by assumption)))))⟩

set_option maxHeartbeats 800000 in
theorem sendr_b (p : Int) (A : Option Addr) (n c : Nat) (xs : List S39) (x : S39) (w : World) (hr : Rd dk w (.slice A n c) xs) (hl : xs.length < 64) (hx : x.f2.size ≤ 100000)
    (a0 : 0 ≤ x.f0) (a1 : p ≤ x.f0) :
    Calls Try.prog 15 #[.agg #[.int .i64 p, .slice A n c], .agg #[.int .i64 x.f0, .int .i64 x.f1, .string x.f2]] w fun e w' => NetE w e w' p (sendN p xs x) (sendE p x) := by
  have hno : (inB x.f0 p && inB x.f1 p) = false := by unfold inB; rw [decide_eq_false (show ¬ x.f0 < p by omega)]; simp only [Bool.false_and, Bool.and_false]
  rw [(send_no hno xs).1, (send_no hno xs).2]
  clear hno
  have hn := hr.len
  have hcap := hr.cap
  have H := Lib.hid hr
  clear hr
  subst hn
  obtain ⟨i0, hi, hz0, hs0, hz2⟩ := info_parts info39
  go_enter Try.func15, Try.ntmps15
  go_wp2_with fail
  refine (copyOf_any p A xs.length c xs _ (rd_step H.out (by repeat (first | exact Below.refl _ _ | with_reducible apply bel_drew | with_reducible apply bel_drewN | with_reducible apply bel_alloc | (with_reducible refine bel_set ?_ (by first | omega | (simp <;> omega)) _) | (with_reducible refine bel_step ?_ (by assumption)) | (with_reducible refine bel_step ?_ (grown_none (by assumption)))))) (by omega)).mono ?_
  rintro e w1 ⟨A1, c1, rfl, ho, hb⟩
  have hz := hb.size
  simp at hz
  obtain ⟨hc, hf⟩ := bcell hb
  have k0 : w1.cell? ⟨w.heap.size, 0, none⟩ = some (.int .i64 p) := (hc _ _ (by first | omega | (simp <;> omega))).trans (by go_simp)
  have kf0 : w1.frozen? ⟨w.heap.size, 0, none⟩ = false := (hf _ _ (by first | omega | (simp <;> omega))).trans (by go_simp)
  have k1 : w1.cell? ⟨w.heap.size, 1, none⟩ = some (.slice A xs.length c) := (hc _ _ (by first | omega | (simp <;> omega))).trans (by go_simp)
  have kf1 : w1.frozen? ⟨w.heap.size, 1, none⟩ = false := (hf _ _ (by first | omega | (simp <;> omega))).trans (by go_simp)
  have k2 : w1.cell? ⟨w.heap.size + 1, 0, none⟩ = some (.int .i64 x.f0) := (hc _ _ (by first | omega | (simp <;> omega))).trans (by go_simp)
  have kf2 : w1.frozen? ⟨w.heap.size + 1, 0, none⟩ = false := (hf _ _ (by first | omega | (simp <;> omega))).trans (by go_simp)
  have k3 : w1.cell? ⟨w.heap.size + 1, 1, none⟩ = some (.int .i64 x.f1) := (hc _ _ (by first | omega | (simp <;> omega))).trans (by go_simp)
  have kf3 : w1.frozen? ⟨w.heap.size + 1, 1, none⟩ = false := (hf _ _ (by first | omega | (simp <;> omega))).trans (by go_simp)
  have k4 : w1.cell? ⟨w.heap.size + 1, 2, none⟩ = some (.string x.f2) := (hc _ _ (by first | omega | (simp <;> omega))).trans (by go_simp)
  have kf4 : w1.frozen? ⟨w.heap.size + 1, 2, none⟩ = false := (hf _ _ (by first | omega | (simp <;> omega))).trans (by go_simp)
  have k5 : w1.cell? ⟨w.heap.size + 1 + 1, 0, none⟩ = some (.int .i64 0) := (hc _ _ (by first | omega | (simp <;> omega))).trans (by go_simp)
  have kf5 : w1.frozen? ⟨w.heap.size + 1 + 1, 0, none⟩ = false := (hf _ _ (by first | omega | (simp <;> omega))).trans (by go_simp)
  have k6 : w1.cell? ⟨w.heap.size + 1 + 1, 1, none⟩ = some (.slice none 0 0) := (hc _ _ (by first | omega | (simp <;> omega))).trans (by go_simp)
  have kf6 : w1.frozen? ⟨w.heap.size + 1 + 1, 1, none⟩ = false := (hf _ _ (by first | omega | (simp <;> omega))).trans (by go_simp)
  clear hc hf
  have lt0 : w.heap.size < w1.heap.size := (by omega)
  have lt1 : w.heap.size < w1.heap.size + 1 := (by omega)
  have lt2 : w.heap.size < w1.heap.size + 1 + 1 := (by omega)
  have lt3 : w.heap.size + 1 < w1.heap.size := (by omega)
  have lt4 : w.heap.size + 1 < w1.heap.size + 1 := (by omega)
  have lt5 : w.heap.size + 1 < w1.heap.size + 1 + 1 := (by omega)
  have lt6 : w.heap.size + 1 + 1 < w1.heap.size := (by omega)
  have lt7 : w.heap.size + 1 + 1 < w1.heap.size + 1 := (by omega)
  have lt8 : w.heap.size + 1 + 1 < w1.heap.size + 1 + 1 := (by omega)
  have HB := Lib.hid (fun k (hk : (Value.slice A1 xs.length c1).ownBlock = some k) => (show w.heap.size + 3 ≤ k ∧ k < w1.heap.size by have := ho.block k hk; simp at this; omega))
  have HO := Lib.hid (ho.lower (B' := w.heap.size) (by first | omega | (simp <;> omega)))
  clear ho
  go_wp2
  refine bodyPost_ret (v := .tuple #[.agg #[.int .i64 p, .slice A1 xs.length c1], .int .i64 2]) (by simp [results, Try.results15, go_sem, *]) rfl ⟨A1, c1, rfl, (by (repeat (first | (with_reducible refine Own.setCell ?_ (fun k hk => by have := HB.out k hk; simp <;> omega) _) | (with_reducible refine own_alloc ?_ _) | (with_reducible refine own_drew ?_) | (with_reducible refine own_drewN ?_ _))); exact HO.out), (by repeat (first | exact Below.refl _ _ | with_reducible apply bel_drew | with_reducible apply bel_drewN | with_reducible apply bel_alloc | (with_reducible refine bel_set ?_ (by first | omega | (simp <;> omega)) _) | (with_reducible refine bel_step ?_ (by assumption)) | (with_reducible refine bel_step ?_ (grown_none (by assumption)))))⟩

set_option maxHeartbeats 800000 in
theorem sendr_c (p : Int) (A : Option Addr) (n c : Nat) (xs : List S39) (x : S39) (w : World) (hr : Rd dk w (.slice A n c) xs) (hl : xs.length < 64) (hx : x.f2.size ≤ 100000)
    (a0 : 0 ≤ x.f0) (a1 : x.f0 < p) (a2 : x.f1 < 0) :
    Calls Try.prog 15 #[.agg #[.int .i64 p, .slice A n c], .agg #[.int .i64 x.f0, .int .i64 x.f1, .string x.f2]] w fun e w' => NetE w e w' p (sendN p xs x) (sendE p x) := by
  have hno : (inB x.f0 p && inB x.f1 p) = false := by unfold inB; rw [decide_eq_false (show ¬ 0 ≤ x.f1 by omega)]; simp only [Bool.false_and, Bool.and_false]
  rw [(send_no hno xs).1, (send_no hno xs).2]
  clear hno
  have hn := hr.len
  have hcap := hr.cap
  have H := Lib.hid hr
  clear hr
  subst hn
  obtain ⟨i0, hi, hz0, hs0, hz2⟩ := info_parts info39
  go_enter Try.func15, Try.ntmps15
  go_wp2_with fail
  refine (copyOf_any p A xs.length c xs _ (rd_step H.out (by repeat (first | exact Below.refl _ _ | with_reducible apply bel_drew | with_reducible apply bel_drewN | with_reducible apply bel_alloc | (with_reducible refine bel_set ?_ (by first | omega | (simp <;> omega)) _) | (with_reducible refine bel_step ?_ (by assumption)) | (with_reducible refine bel_step ?_ (grown_none (by assumption)))))) (by omega)).mono ?_
  rintro e w1 ⟨A1, c1, rfl, ho, hb⟩
  have hz := hb.size
  simp at hz
  obtain ⟨hc, hf⟩ := bcell hb
  have k0 : w1.cell? ⟨w.heap.size, 0, none⟩ = some (.int .i64 p) := (hc _ _ (by first | omega | (simp <;> omega))).trans (by go_simp)
  have kf0 : w1.frozen? ⟨w.heap.size, 0, none⟩ = false := (hf _ _ (by first | omega | (simp <;> omega))).trans (by go_simp)
  have k1 : w1.cell? ⟨w.heap.size, 1, none⟩ = some (.slice A xs.length c) := (hc _ _ (by first | omega | (simp <;> omega))).trans (by go_simp)
  have kf1 : w1.frozen? ⟨w.heap.size, 1, none⟩ = false := (hf _ _ (by first | omega | (simp <;> omega))).trans (by go_simp)
  have k2 : w1.cell? ⟨w.heap.size + 1, 0, none⟩ = some (.int .i64 x.f0) := (hc _ _ (by first | omega | (simp <;> omega))).trans (by go_simp)
  have kf2 : w1.frozen? ⟨w.heap.size + 1, 0, none⟩ = false := (hf _ _ (by first | omega | (simp <;> omega))).trans (by go_simp)
  have k3 : w1.cell? ⟨w.heap.size + 1, 1, none⟩ = some (.int .i64 x.f1) := (hc _ _ (by first | omega | (simp <;> omega))).trans (by go_simp)
  have kf3 : w1.frozen? ⟨w.heap.size + 1, 1, none⟩ = false := (hf _ _ (by first | omega | (simp <;> omega))).trans (by go_simp)
  have k4 : w1.cell? ⟨w.heap.size + 1, 2, none⟩ = some (.string x.f2) := (hc _ _ (by first | omega | (simp <;> omega))).trans (by go_simp)
  have kf4 : w1.frozen? ⟨w.heap.size + 1, 2, none⟩ = false := (hf _ _ (by first | omega | (simp <;> omega))).trans (by go_simp)
  have k5 : w1.cell? ⟨w.heap.size + 1 + 1, 0, none⟩ = some (.int .i64 0) := (hc _ _ (by first | omega | (simp <;> omega))).trans (by go_simp)
  have kf5 : w1.frozen? ⟨w.heap.size + 1 + 1, 0, none⟩ = false := (hf _ _ (by first | omega | (simp <;> omega))).trans (by go_simp)
  have k6 : w1.cell? ⟨w.heap.size + 1 + 1, 1, none⟩ = some (.slice none 0 0) := (hc _ _ (by first | omega | (simp <;> omega))).trans (by go_simp)
  have kf6 : w1.frozen? ⟨w.heap.size + 1 + 1, 1, none⟩ = false := (hf _ _ (by first | omega | (simp <;> omega))).trans (by go_simp)
  clear hc hf
  have lt0 : w.heap.size < w1.heap.size := (by omega)
  have lt1 : w.heap.size < w1.heap.size + 1 := (by omega)
  have lt2 : w.heap.size < w1.heap.size + 1 + 1 := (by omega)
  have lt3 : w.heap.size + 1 < w1.heap.size := (by omega)
  have lt4 : w.heap.size + 1 < w1.heap.size + 1 := (by omega)
  have lt5 : w.heap.size + 1 < w1.heap.size + 1 + 1 := (by omega)
  have lt6 : w.heap.size + 1 + 1 < w1.heap.size := (by omega)
  have lt7 : w.heap.size + 1 + 1 < w1.heap.size + 1 := (by omega)
  have lt8 : w.heap.size + 1 + 1 < w1.heap.size + 1 + 1 := (by omega)
  have HB := Lib.hid (fun k (hk : (Value.slice A1 xs.length c1).ownBlock = some k) => (show w.heap.size + 3 ≤ k ∧ k < w1.heap.size by have := ho.block k hk; simp at this; omega))
  have HO := Lib.hid (ho.lower (B' := w.heap.size) (by first | omega | (simp <;> omega)))
  clear ho
  go_wp2
  refine bodyPost_ret (v := .tuple #[.agg #[.int .i64 p, .slice A1 xs.length c1], .int .i64 2]) (by simp [results, Try.results15, go_sem, *]) rfl ⟨A1, c1, rfl, (by (repeat (first | (with_reducible refine Own.setCell ?_ (fun k hk => by have := HB.out k hk; simp <;> omega) _) | (with_reducible refine own_alloc ?_ _) | (with_reducible refine own_drew ?_) | (with_reducible refine own_drewN ?_ _))); exact HO.out), (by repeat (first | exact Below.refl _ _ | with_reducible apply bel_drew | with_reducible apply bel_drewN | with_reducible apply bel_alloc | (with_reducible refine bel_set ?_ (by first | omega | (simp <;> omega)) _) | (with_reducible refine bel_step ?_ (by assumption)) | (with_reducible refine bel_step ?_ (grown_none (by assumption)))))⟩

set_option maxHeartbeats 800000 in
theorem sendr_d (p : Int) (A : Option Addr) (n c : Nat) (xs : List S39) (x : S39) (w : World) (hr : Rd dk w (.slice A n c) xs) (hl : xs.length < 64) (hx : x.f2.size ≤ 100000)
    (a0 : 0 ≤ x.f0) (a1 : x.f0 < p) (a2 : 0 ≤ x.f1) (a3 : p ≤ x.f1) :
    Calls Try.prog 15 #[.agg #[.int .i64 p, .slice A n c], .agg #[.int .i64 x.f0, .int .i64 x.f1, .string x.f2]] w fun e w' => NetE w e w' p (sendN p xs x) (sendE p x) := by
  have hno : (inB x.f0 p && inB x.f1 p) = false := by unfold inB; rw [decide_eq_false (show ¬ x.f1 < p by omega)]; simp only [Bool.false_and, Bool.and_false]
  rw [(send_no hno xs).1, (send_no hno xs).2]
  clear hno
  have hn := hr.len
  have hcap := hr.cap
  have H := Lib.hid hr
  clear hr
  subst hn
  obtain ⟨i0, hi, hz0, hs0, hz2⟩ := info_parts info39
  go_enter Try.func15, Try.ntmps15
  go_wp2_with fail
  refine (copyOf_any p A xs.length c xs _ (rd_step H.out (by repeat (first | exact Below.refl _ _ | with_reducible apply bel_drew | with_reducible apply bel_drewN | with_reducible apply bel_alloc | (with_reducible refine bel_set ?_ (by first | omega | (simp <;> omega)) _) | (with_reducible refine bel_step ?_ (by assumption)) | (with_reducible refine bel_step ?_ (grown_none (by assumption)))))) (by omega)).mono ?_
  rintro e w1 ⟨A1, c1, rfl, ho, hb⟩
  have hz := hb.size
  simp at hz
  obtain ⟨hc, hf⟩ := bcell hb
  have k0 : w1.cell? ⟨w.heap.size, 0, none⟩ = some (.int .i64 p) := (hc _ _ (by first | omega | (simp <;> omega))).trans (by go_simp)
  have kf0 : w1.frozen? ⟨w.heap.size, 0, none⟩ = false := (hf _ _ (by first | omega | (simp <;> omega))).trans (by go_simp)
  have k1 : w1.cell? ⟨w.heap.size, 1, none⟩ = some (.slice A xs.length c) := (hc _ _ (by first | omega | (simp <;> omega))).trans (by go_simp)
  have kf1 : w1.frozen? ⟨w.heap.size, 1, none⟩ = false := (hf _ _ (by first | omega | (simp <;> omega))).trans (by go_simp)
  have k2 : w1.cell? ⟨w.heap.size + 1, 0, none⟩ = some (.int .i64 x.f0) := (hc _ _ (by first | omega | (simp <;> omega))).trans (by go_simp)
  have kf2 : w1.frozen? ⟨w.heap.size + 1, 0, none⟩ = false := (hf _ _ (by first | omega | (simp <;> omega))).trans (by go_simp)
  have k3 : w1.cell? ⟨w.heap.size + 1, 1, none⟩ = some (.int .i64 x.f1) := (hc _ _ (by first | omega | (simp <;> omega))).trans (by go_simp)
  have kf3 : w1.frozen? ⟨w.heap.size + 1, 1, none⟩ = false := (hf _ _ (by first | omega | (simp <;> omega))).trans (by go_simp)
  have k4 : w1.cell? ⟨w.heap.size + 1, 2, none⟩ = some (.string x.f2) := (hc _ _ (by first | omega | (simp <;> omega))).trans (by go_simp)
  have kf4 : w1.frozen? ⟨w.heap.size + 1, 2, none⟩ = false := (hf _ _ (by first | omega | (simp <;> omega))).trans (by go_simp)
  have k5 : w1.cell? ⟨w.heap.size + 1 + 1, 0, none⟩ = some (.int .i64 0) := (hc _ _ (by first | omega | (simp <;> omega))).trans (by go_simp)
  have kf5 : w1.frozen? ⟨w.heap.size + 1 + 1, 0, none⟩ = false := (hf _ _ (by first | omega | (simp <;> omega))).trans (by go_simp)
  have k6 : w1.cell? ⟨w.heap.size + 1 + 1, 1, none⟩ = some (.slice none 0 0) := (hc _ _ (by first | omega | (simp <;> omega))).trans (by go_simp)
  have kf6 : w1.frozen? ⟨w.heap.size + 1 + 1, 1, none⟩ = false := (hf _ _ (by first | omega | (simp <;> omega))).trans (by go_simp)
  clear hc hf
  have lt0 : w.heap.size < w1.heap.size := (by omega)
  have lt1 : w.heap.size < w1.heap.size + 1 := (by omega)
  have lt2 : w.heap.size < w1.heap.size + 1 + 1 := (by omega)
  have lt3 : w.heap.size + 1 < w1.heap.size := (by omega)
  have lt4 : w.heap.size + 1 < w1.heap.size + 1 := (by omega)
  have lt5 : w.heap.size + 1 < w1.heap.size + 1 + 1 := (by omega)
  have lt6 : w.heap.size + 1 + 1 < w1.heap.size := (by omega)
  have lt7 : w.heap.size + 1 + 1 < w1.heap.size + 1 := (by omega)
  have lt8 : w.heap.size + 1 + 1 < w1.heap.size + 1 + 1 := (by omega)
  have HB := Lib.hid (fun k (hk : (Value.slice A1 xs.length c1).ownBlock = some k) => (show w.heap.size + 3 ≤ k ∧ k < w1.heap.size by have := ho.block k hk; simp at this; omega))
  have HO := Lib.hid (ho.lower (B' := w.heap.size) (by first | omega | (simp <;> omega)))
  clear ho
  go_wp2
  refine bodyPost_ret (v := .tuple #[.agg #[.int .i64 p, .slice A1 xs.length c1], .int .i64 2]) (by simp [results, Try.results15, go_sem, *]) rfl ⟨A1, c1, rfl, (by (repeat (first | (with_reducible refine Own.setCell ?_ (fun k hk => by have := HB.out k hk; simp <;> omega) _) | (with_reducible refine own_alloc ?_ _) | (with_reducible refine own_drew ?_) | (with_reducible refine own_drewN ?_ _))); exact HO.out), (by repeat (first | exact Below.refl _ _ | with_reducible apply bel_drew | with_reducible apply bel_drewN | with_reducible apply bel_alloc | (with_reducible refine bel_set ?_ (by first | omega | (simp <;> omega)) _) | (with_reducible refine bel_step ?_ (by assumption)) | (with_reducible refine bel_step ?_ (grown_none (by assumption)))))⟩

set_option maxHeartbeats 800000 in
theorem sendr_e (p : Int) (A : Option Addr) (n c : Nat) (xs : List S39) (x : S39) (w : World) (hr : Rd dk w (.slice A n c) xs) (hl : xs.length < 64) (hx : x.f2.size ≤ 100000)
    (a0 : 0 ≤ x.f0) (a1 : x.f0 < p) (a2 : 0 ≤ x.f1) (a3 : x.f1 < p) :
    Calls Try.prog 15 #[.agg #[.int .i64 p, .slice A n c], .agg #[.int .i64 x.f0, .int .i64 x.f1, .string x.f2]] w fun e w' => NetE w e w' p (sendN p xs x) (sendE p x) := by
  have hyes : (inB x.f0 p && inB x.f1 p) = true := by unfold inB; simp only [a0, a1, a2, a3, decide_true, Bool.and_self]
  rw [(send_yes hyes xs).1, (send_yes hyes xs).2]
  clear hyes
  have hn := hr.len
  have hcap := hr.cap
  have H := Lib.hid hr
  clear hr
  subst hn
  obtain ⟨i0, hi, hz0, hs0, hz2⟩ := info_parts info39
  go_enter Try.func15, Try.ntmps15
  go_wp2_with fail
  refine (copyOf_any p A xs.length c xs _ (rd_step H.out (by repeat (first | exact Below.refl _ _ | with_reducible apply bel_drew | with_reducible apply bel_drewN | with_reducible apply bel_alloc | (with_reducible refine bel_set ?_ (by first | omega | (simp <;> omega)) _) | (with_reducible refine bel_step ?_ (by assumption)) | (with_reducible refine bel_step ?_ (grown_none (by assumption)))))) (by omega)).mono ?_
  rintro e w1 ⟨A1, c1, rfl, ho, hb⟩
  have hz := hb.size
  simp at hz
  obtain ⟨hc, hf⟩ := bcell hb
  have k0 : w1.cell? ⟨w.heap.size, 0, none⟩ = some (.int .i64 p) := (hc _ _ (by first | omega | (simp <;> omega))).trans (by go_simp)
  have kf0 : w1.frozen? ⟨w.heap.size, 0, none⟩ = false := (hf _ _ (by first | omega | (simp <;> omega))).trans (by go_simp)
  have k1 : w1.cell? ⟨w.heap.size, 1, none⟩ = some (.slice A xs.length c) := (hc _ _ (by first | omega | (simp <;> omega))).trans (by go_simp)
  have kf1 : w1.frozen? ⟨w.heap.size, 1, none⟩ = false := (hf _ _ (by first | omega | (simp <;> omega))).trans (by go_simp)
  have k2 : w1.cell? ⟨w.heap.size + 1, 0, none⟩ = some (.int .i64 x.f0) := (hc _ _ (by first | omega | (simp <;> omega))).trans (by go_simp)
  have kf2 : w1.frozen? ⟨w.heap.size + 1, 0, none⟩ = false := (hf _ _ (by first | omega | (simp <;> omega))).trans (by go_simp)
  have k3 : w1.cell? ⟨w.heap.size + 1, 1, none⟩ = some (.int .i64 x.f1) := (hc _ _ (by first | omega | (simp <;> omega))).trans (by go_simp)
  have kf3 : w1.frozen? ⟨w.heap.size + 1, 1, none⟩ = false := (hf _ _ (by first | omega | (simp <;> omega))).trans (by go_simp)
  have k4 : w1.cell? ⟨w.heap.size + 1, 2, none⟩ = some (.string x.f2) := (hc _ _ (by first | omega | (simp <;> omega))).trans (by go_simp)
  have kf4 : w1.frozen? ⟨w.heap.size + 1, 2, none⟩ = false := (hf _ _ (by first | omega | (simp <;> omega))).trans (by go_simp)
  have k5 : w1.cell? ⟨w.heap.size + 1 + 1, 0, none⟩ = some (.int .i64 0) := (hc _ _ (by first | omega | (simp <;> omega))).trans (by go_simp)
  have kf5 : w1.frozen? ⟨w.heap.size + 1 + 1, 0, none⟩ = false := (hf _ _ (by first | omega | (simp <;> omega))).trans (by go_simp)
  have k6 : w1.cell? ⟨w.heap.size + 1 + 1, 1, none⟩ = some (.slice none 0 0) := (hc _ _ (by first | omega | (simp <;> omega))).trans (by go_simp)
  have kf6 : w1.frozen? ⟨w.heap.size + 1 + 1, 1, none⟩ = false := (hf _ _ (by first | omega | (simp <;> omega))).trans (by go_simp)
  clear hc hf
  have lt0 : w.heap.size < w1.heap.size := (by omega)
  have lt1 : w.heap.size < w1.heap.size + 1 := (by omega)
  have lt2 : w.heap.size < w1.heap.size + 1 + 1 := (by omega)
  have lt3 : w.heap.size + 1 < w1.heap.size := (by omega)
  have lt4 : w.heap.size + 1 < w1.heap.size + 1 := (by omega)
  have lt5 : w.heap.size + 1 < w1.heap.size + 1 + 1 := (by omega)
  have lt6 : w.heap.size + 1 + 1 < w1.heap.size := (by omega)
  have lt7 : w.heap.size + 1 + 1 < w1.heap.size + 1 := (by omega)
  have lt8 : w.heap.size + 1 + 1 < w1.heap.size + 1 + 1 := (by omega)
  have HB := Lib.hid (fun k (hk : (Value.slice A1 xs.length c1).ownBlock = some k) => (show w.heap.size + 3 ≤ k ∧ k < w1.heap.size by have := ho.block k hk; simp at this; omega))
  have HO := Lib.hid (ho.lower (B' := w.heap.size) (by first | omega | (simp <;> omega)))
  clear ho
  go_wp2_with ((at_builtin; refine wpList_append_rd (d := dk) (v := .slice A1 xs.length c1) (y := .slice (some ⟨w1.heap.size + 1, 0, none⟩) 1 1) (xs := xs) (ys := [x]) rfl _ _ 27 rfl 39 i0 _ 32 w.heap.size Try.underlying27 hi hz0 hs0 hz2 rfl rfl (own_still HO.out (by repeat (first | exact Below.refl _ _ | with_reducible apply bel_drew | with_reducible apply bel_drewN | with_reducible apply bel_alloc | (with_reducible refine bel_set ?_ (by first | omega | (simp <;> omega)) _) | (with_reducible refine bel_step ?_ (by assumption)) | (with_reducible refine bel_step ?_ (grown_none (by assumption)))))) rfl (rd_lit _ (by first | omega | (simp <;> omega)) (by go_simp) (by go_simp) (by go_simp)) (by first | omega | (simp <;> omega)) (by unfold maxLen; simp <;> omega) (by first | omega | (simp <;> omega)) (xs.length + 1) (by simp) ?_; intro A2 c2 w2 ho2 hg2 hat2; have hz2' := hg2.size; simp at hz2'; have m0 : w2.cell? ⟨w.heap.size, 0, none⟩ = some (.int .i64 p) := ((grown_cell hg2 (by first | omega | (simp <;> omega)) (fun e => by have := HB.out _ e; first | omega | (simp at this <;> omega))).1 _).trans (by go_simp); have mf0 : w2.frozen? ⟨w.heap.size, 0, none⟩ = false := ((grown_cell hg2 (by first | omega | (simp <;> omega)) (fun e => by have := HB.out _ e; first | omega | (simp at this <;> omega))).2 _).trans (by go_simp); have m1 : w2.cell? ⟨w.heap.size, 1, none⟩ = some (.slice A xs.length c) := ((grown_cell hg2 (by first | omega | (simp <;> omega)) (fun e => by have := HB.out _ e; first | omega | (simp at this <;> omega))).1 _).trans (by go_simp); have mf1 : w2.frozen? ⟨w.heap.size, 1, none⟩ = false := ((grown_cell hg2 (by first | omega | (simp <;> omega)) (fun e => by have := HB.out _ e; first | omega | (simp at this <;> omega))).2 _).trans (by go_simp); have m2 : w2.cell? ⟨w.heap.size + 1, 0, none⟩ = some (.int .i64 x.f0) := ((grown_cell hg2 (by first | omega | (simp <;> omega)) (fun e => by have := HB.out _ e; first | omega | (simp at this <;> omega))).1 _).trans (by go_simp); have mf2 : w2.frozen? ⟨w.heap.size + 1, 0, none⟩ = false := ((grown_cell hg2 (by first | omega | (simp <;> omega)) (fun e => by have := HB.out _ e; first | omega | (simp at this <;> omega))).2 _).trans (by go_simp); have m3 : w2.cell? ⟨w.heap.size + 1, 1, none⟩ = some (.int .i64 x.f1) := ((grown_cell hg2 (by first | omega | (simp <;> omega)) (fun e => by have := HB.out _ e; first | omega | (simp at this <;> omega))).1 _).trans (by go_simp); have mf3 : w2.frozen? ⟨w.heap.size + 1, 1, none⟩ = false := ((grown_cell hg2 (by first | omega | (simp <;> omega)) (fun e => by have := HB.out _ e; first | omega | (simp at this <;> omega))).2 _).trans (by go_simp); have m4 : w2.cell? ⟨w.heap.size + 1, 2, none⟩ = some (.string x.f2) := ((grown_cell hg2 (by first | omega | (simp <;> omega)) (fun e => by have := HB.out _ e; first | omega | (simp at this <;> omega))).1 _).trans (by go_simp); have mf4 : w2.frozen? ⟨w.heap.size + 1, 2, none⟩ = false := ((grown_cell hg2 (by first | omega | (simp <;> omega)) (fun e => by have := HB.out _ e; first | omega | (simp at this <;> omega))).2 _).trans (by go_simp); have m5 : w2.cell? ⟨w.heap.size + 1 + 1, 0, none⟩ = some (.int .i64 0) := ((grown_cell hg2 (by first | omega | (simp <;> omega)) (fun e => by have := HB.out _ e; first | omega | (simp at this <;> omega))).1 _).trans (by go_simp); have mf5 : w2.frozen? ⟨w.heap.size + 1 + 1, 0, none⟩ = false := ((grown_cell hg2 (by first | omega | (simp <;> omega)) (fun e => by have := HB.out _ e; first | omega | (simp at this <;> omega))).2 _).trans (by go_simp); have m6 : w2.cell? ⟨w.heap.size + 1 + 1, 1, none⟩ = some (.slice none 0 0) := ((grown_cell hg2 (by first | omega | (simp <;> omega)) (fun e => by have := HB.out _ e; first | omega | (simp at this <;> omega))).1 _).trans (by go_simp); have mf6 : w2.frozen? ⟨w.heap.size + 1 + 1, 1, none⟩ = false := ((grown_cell hg2 (by first | omega | (simp <;> omega)) (fun e => by have := HB.out _ e; first | omega | (simp at this <;> omega))).2 _).trans (by go_simp); have m7 : w2.cell? ⟨w1.heap.size, 0, none⟩ = some (.int .i64 p) := ((grown_cell hg2 (by first | omega | (simp <;> omega)) (fun e => by have := HB.out _ e; first | omega | (simp at this <;> omega))).1 _).trans (by go_simp); have mf7 : w2.frozen? ⟨w1.heap.size, 0, none⟩ = false := ((grown_cell hg2 (by first | omega | (simp <;> omega)) (fun e => by have := HB.out _ e; first | omega | (simp at this <;> omega))).2 _).trans (by go_simp); have m8 : w2.cell? ⟨w1.heap.size, 1, none⟩ = some (.slice A1 xs.length c1) := ((grown_cell hg2 (by first | omega | (simp <;> omega)) (fun e => by have := HB.out _ e; first | omega | (simp at this <;> omega))).1 _).trans (by go_simp); have mf8 : w2.frozen? ⟨w1.heap.size, 1, none⟩ = false := ((grown_cell hg2 (by first | omega | (simp <;> omega)) (fun e => by have := HB.out _ e; first | omega | (simp at this <;> omega))).2 _).trans (by go_simp); have mt0 : w.heap.size < w2.heap.size := (by omega); have mt1 : w.heap.size < w2.heap.size + 1 := (by omega); have mt2 : w.heap.size + 1 < w2.heap.size := (by omega); have mt3 : w.heap.size + 1 < w2.heap.size + 1 := (by omega); have mt4 : w.heap.size + 1 + 1 < w2.heap.size := (by omega); have mt5 : w.heap.size + 1 + 1 < w2.heap.size + 1 := (by omega); have mt6 : w1.heap.size < w2.heap.size := (by omega); have mt7 : w1.heap.size < w2.heap.size + 1 := (by omega); have HB2 := Lib.hid (show ∀ k, (Value.slice A2 (xs.length + 1) c2).ownBlock = some k → (w.heap.size + 3 ≤ k ∧ k ≠ w1.heap.size) from block_at hat2 (fun k => w.heap.size + 3 ≤ k ∧ k ≠ w1.heap.size) (fun k hk => by have := HB.out k hk; omega) (by first | omega | (simp <;> omega))); have HO2 := Lib.hid ho2; have hb2 := bel_grown (W := w) (by repeat (first | exact Below.refl _ _ | with_reducible apply bel_drew | with_reducible apply bel_drewN | with_reducible apply bel_alloc | (with_reducible refine bel_set ?_ (by first | omega | (simp <;> omega)) _) | (with_reducible refine bel_step ?_ (by assumption)) | (with_reducible refine bel_step ?_ (grown_none (by assumption))))) hg2 (fun k hk => by have := HB.out k hk; omega); clear hat2 ho2 hg2))
  refine bodyPost_ret (v := .tuple #[.agg #[.int .i64 p, .slice A2 (xs.length + 1) c2], .int .i64 0]) (by simp [results, Try.results15, go_sem, *]) rfl ⟨A2, c2, by simp, ?_, (by repeat (first | exact Below.refl _ _ | with_reducible apply bel_drew | with_reducible apply bel_drewN | with_reducible apply bel_alloc | (with_reducible refine bel_set ?_ (by first | omega | (simp <;> omega)) _) | (with_reducible refine bel_step ?_ (by assumption)) | (with_reducible refine bel_step ?_ (grown_none (by assumption)))))⟩
  rw [show (xs ++ [x]).length = xs.length + 1 by simp]
  exact (by (repeat (first | (with_reducible refine Own.setCell ?_ (fun k hk => by have := HB2.out k hk; simp <;> omega) _) | (with_reducible refine own_alloc ?_ _) | (with_reducible refine own_drew ?_) | (with_reducible refine own_drewN ?_ _))); exact HO2.out)

theorem send_ref (p : Int) (A : Option Addr) (n c : Nat) (xs : List S39) (x : S39) (w : World) (hr : Rd dk w (.slice A n c) xs) (hl : xs.length < 64) (hx : x.f2.size ≤ 100000) :
    Calls Try.prog 15 #[.agg #[.int .i64 p, .slice A n c], .agg #[.int .i64 x.f0, .int .i64 x.f1, .string x.f2]] w fun e w' => NetE w e w' p (sendN p xs x) (sendE p x) := by
  by_cases a0 : 0 ≤ x.f0
  · by_cases a1 : x.f0 < p
    · by_cases a2 : 0 ≤ x.f1
      · by_cases a3 : x.f1 < p
        · exact sendr_e p A n c xs x w hr hl hx a0 a1 a2 a3
        · exact sendr_d p A n c xs x w hr hl hx a0 a1 a2 (by omega)
      · exact sendr_c p A n c xs x w hr hl hx a0 a1 (by omega)
    · exact sendr_b p A n c xs x w hr hl hx a0 (by omega)
  · exact sendr_a p A n c xs x w hr hl hx (by omega)
end Go.Proofs.Ytkcijghflaoccaa.Nw
