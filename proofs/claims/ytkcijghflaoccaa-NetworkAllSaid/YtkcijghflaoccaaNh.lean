/- Do: delivers, loses, repeats. -/
import Derived.Test.YtkcijghflaoccaaNf
namespace Go.Proofs.Ytkcijghflaoccaa.Nw
open Go.RowKit Go.Proofs.Ytkcijghflaoccaa.Ow Go.Proofs.Ytkcijghflaoccaa.PNetworkAll
set_option linter.unusedVariables false
set_option linter.unusedSimpArgs false

set_option maxRecDepth 20000 in
set_option maxHeartbeats 400000 in
theorem do_k1any (p : Int) (A : Option Addr) (n c : Nat) (xs : List S39) (h1 h2 h3 : Int) (w : World) (hr : Rd dk w (.slice A n c) xs) (hl : xs.length < 64)
    (x : S39) (k : Nat) (hk : modv h1 xs.length = (k : Int)) (hx : xs[k]? = some x) :
    Calls Try.prog 12 #[.agg #[.int .i64 p, .slice A n c], .agg #[.int .i64 1, .int .i64 h1, .int .i64 h2, .int .i64 h3]] w fun e w' => DoIs w e w' p (cut xs k, [x], 0) := by
  have hn := hr.len
  have hcap := hr.cap
  have H := Lib.hid hr
  clear hr
  subst hn
  obtain ⟨g, o, rfl, hg, hcx⟩ := H.out.at_ hx
  have cx0 := hcx 0 _ rfl
  have cx1 := hcx 1 _ rfl
  have cx2 := hcx 2 _ rfl
  clear hcx
  rw [show dk.sz = 3 from rfl] at cx0 cx1 cx2
  have M1 := fun W => mod_any h1 xs.length W (by have := (List.getElem?_eq_some_iff.1 hx).1; omega) (by omega)
  rw [hk] at M1
  have HM := Lib.hid M1
  have hklt : k < xs.length := (List.getElem?_eq_some_iff.1 hx).1
  have hxs : ((xs.length : Int) == 0) = false := beq_eq_false_iff_ne.2 (by omega)
  have HX := Lib.hid hx
  clear M1 hk hx
  go_enter Try.func12, Try.ntmps12
  go_wp2_with fail
  refine (copied_any p (some ⟨g, o, none⟩) xs.length c xs _ (rd_step H.out (by repeat (first | exact Below.refl _ _ | with_reducible apply bel_drew | with_reducible apply bel_drewN | with_reducible apply bel_alloc | (with_reducible refine bel_set ?_ (by first | omega | (simp <;> omega)) _) | (with_reducible refine bel_step ?_ (by assumption)) | (with_reducible refine bel_step ?_ (grown_none (by assumption)))))) (by omega)).mono ?_
  rintro e w1 ⟨A1, c1, rfl, ho, hb⟩
  have hz := hb.size
  simp at hz
  obtain ⟨hc, hf⟩ := bcell hb
  have k0 : w1.cell? ⟨w.heap.size, 0, none⟩ = some (.int .i64 p) := (hc _ _ (by first | omega | (simp <;> omega))).trans (by go_simp)
  have kf0 : w1.frozen? ⟨w.heap.size, 0, none⟩ = false := (hf _ _ (by first | omega | (simp <;> omega))).trans (by go_simp)
  have k1 : w1.cell? ⟨w.heap.size, 1, none⟩ = some (.slice (some ⟨g, o, none⟩) xs.length c) := (hc _ _ (by first | omega | (simp <;> omega))).trans (by go_simp)
  have kf1 : w1.frozen? ⟨w.heap.size, 1, none⟩ = false := (hf _ _ (by first | omega | (simp <;> omega))).trans (by go_simp)
  have k2 : w1.cell? ⟨w.heap.size + 1, 0, none⟩ = some (.int .i64 1) := (hc _ _ (by first | omega | (simp <;> omega))).trans (by go_simp)
  have kf2 : w1.frozen? ⟨w.heap.size + 1, 0, none⟩ = false := (hf _ _ (by first | omega | (simp <;> omega))).trans (by go_simp)
  have k3 : w1.cell? ⟨w.heap.size + 1, 1, none⟩ = some (.int .i64 h1) := (hc _ _ (by first | omega | (simp <;> omega))).trans (by go_simp)
  have kf3 : w1.frozen? ⟨w.heap.size + 1, 1, none⟩ = false := (hf _ _ (by first | omega | (simp <;> omega))).trans (by go_simp)
  have k4 : w1.cell? ⟨w.heap.size + 1, 2, none⟩ = some (.int .i64 h2) := (hc _ _ (by first | omega | (simp <;> omega))).trans (by go_simp)
  have kf4 : w1.frozen? ⟨w.heap.size + 1, 2, none⟩ = false := (hf _ _ (by first | omega | (simp <;> omega))).trans (by go_simp)
  have k5 : w1.cell? ⟨w.heap.size + 1, 3, none⟩ = some (.int .i64 h3) := (hc _ _ (by first | omega | (simp <;> omega))).trans (by go_simp)
  have kf5 : w1.frozen? ⟨w.heap.size + 1, 3, none⟩ = false := (hf _ _ (by first | omega | (simp <;> omega))).trans (by go_simp)
  have k6 : w1.cell? ⟨w.heap.size + 1 + 1, 0, none⟩ = some (.int .i64 0) := (hc _ _ (by first | omega | (simp <;> omega))).trans (by go_simp)
  have kf6 : w1.frozen? ⟨w.heap.size + 1 + 1, 0, none⟩ = false := (hf _ _ (by first | omega | (simp <;> omega))).trans (by go_simp)
  have k7 : w1.cell? ⟨w.heap.size + 1 + 1, 1, none⟩ = some (.slice none 0 0) := (hc _ _ (by first | omega | (simp <;> omega))).trans (by go_simp)
  have kf7 : w1.frozen? ⟨w.heap.size + 1 + 1, 1, none⟩ = false := (hf _ _ (by first | omega | (simp <;> omega))).trans (by go_simp)
  have HBW : Below w.heap.size w w1 := bel_step (by repeat (first | exact Below.refl _ _ | with_reducible apply bel_drew | with_reducible apply bel_drewN | with_reducible apply bel_alloc | (with_reducible refine bel_set ?_ (by first | omega | (simp <;> omega)) _) | (with_reducible refine bel_step ?_ (by assumption)) | (with_reducible refine bel_step ?_ (grown_none (by assumption))))) hb
  have gx0 : w1.cell? ⟨g, o + k * 3, none⟩ = some (.int .i64 x.f0) := (HBW.cell (p := ⟨g, _, none⟩) hg).trans cx0
  have gx1 : w1.cell? ⟨g, o + k * 3 + 1, none⟩ = some (.int .i64 x.f1) := (HBW.cell (p := ⟨g, _, none⟩) hg).trans cx1
  have gx2 : w1.cell? ⟨g, o + k * 3 + 2, none⟩ = some (.string x.f2) := (HBW.cell (p := ⟨g, _, none⟩) hg).trans cx2
  have gl0 : g < w1.heap.size := by omega
  have gl1 : g < w1.heap.size + 1 := by omega
  have gl2 : g < w1.heap.size + 1 + 1 := by omega
  clear hc hf
  have lt0 : w.heap.size < w1.heap.size := (by omega)
  have lt1 : w.heap.size < w1.heap.size + 1 := (by omega)
  have lt2 : w.heap.size < w1.heap.size + 1 + 1 := (by omega)
  have lt3 : w.heap.size < w1.heap.size + 1 + 1 + 1 := (by omega)
  have lt4 : w.heap.size + 1 < w1.heap.size := (by omega)
  have lt5 : w.heap.size + 1 < w1.heap.size + 1 := (by omega)
  have lt6 : w.heap.size + 1 < w1.heap.size + 1 + 1 := (by omega)
  have lt7 : w.heap.size + 1 < w1.heap.size + 1 + 1 + 1 := (by omega)
  have lt8 : w.heap.size + 1 + 1 < w1.heap.size := (by omega)
  have lt9 : w.heap.size + 1 + 1 < w1.heap.size + 1 := (by omega)
  have lt10 : w.heap.size + 1 + 1 < w1.heap.size + 1 + 1 := (by omega)
  have lt11 : w.heap.size + 1 + 1 < w1.heap.size + 1 + 1 + 1 := (by omega)
  have HB := Lib.hid (fun k (hk : (Value.slice A1 xs.length c1).ownBlock = some k) => (show w.heap.size + 3 ≤ k ∧ k < w1.heap.size by have := ho.block k hk; simp at this; omega))
  have HO := Lib.hid (ho.lower (B' := w.heap.size) (by first | omega | (simp <;> omega)))
  clear ho
  go_wp2_with (go_at_call 29; (with_reducible refine (HM.out _).mono ?_); rintro e w' ⟨rfl, rfl⟩)
  refine (cut_any k (some ⟨g, o, none⟩) xs.length c xs _ (rd_step H.out (by repeat (first | exact Below.refl _ _ | with_reducible apply bel_drew | with_reducible apply bel_drewN | with_reducible apply bel_alloc | (with_reducible refine bel_set ?_ (by first | omega | (simp <;> omega)) _) | (with_reducible refine bel_step ?_ (by assumption)) | (with_reducible refine bel_step ?_ (grown_none (by assumption)))))) (by omega) hklt).mono ?_
  rintro e w2 ⟨A2, c2, rfl, ho2, hb2⟩
  have hz2 := hb2.size
  simp at hz2
  obtain ⟨hc2, hf2⟩ := bcell hb2
  have m0 : w2.cell? ⟨w.heap.size, 0, none⟩ = some (.int .i64 p) := (hc2 _ _ (by first | omega | (simp <;> omega))).trans (by go_simp)
  have mf0 : w2.frozen? ⟨w.heap.size, 0, none⟩ = false := (hf2 _ _ (by first | omega | (simp <;> omega))).trans (by go_simp)
  have m1 : w2.cell? ⟨w.heap.size, 1, none⟩ = some (.slice (some ⟨g, o, none⟩) xs.length c) := (hc2 _ _ (by first | omega | (simp <;> omega))).trans (by go_simp)
  have mf1 : w2.frozen? ⟨w.heap.size, 1, none⟩ = false := (hf2 _ _ (by first | omega | (simp <;> omega))).trans (by go_simp)
  have m2 : w2.cell? ⟨w.heap.size + 1, 0, none⟩ = some (.int .i64 1) := (hc2 _ _ (by first | omega | (simp <;> omega))).trans (by go_simp)
  have mf2 : w2.frozen? ⟨w.heap.size + 1, 0, none⟩ = false := (hf2 _ _ (by first | omega | (simp <;> omega))).trans (by go_simp)
  have m3 : w2.cell? ⟨w.heap.size + 1, 1, none⟩ = some (.int .i64 h1) := (hc2 _ _ (by first | omega | (simp <;> omega))).trans (by go_simp)
  have mf3 : w2.frozen? ⟨w.heap.size + 1, 1, none⟩ = false := (hf2 _ _ (by first | omega | (simp <;> omega))).trans (by go_simp)
  have m4 : w2.cell? ⟨w.heap.size + 1, 2, none⟩ = some (.int .i64 h2) := (hc2 _ _ (by first | omega | (simp <;> omega))).trans (by go_simp)
  have mf4 : w2.frozen? ⟨w.heap.size + 1, 2, none⟩ = false := (hf2 _ _ (by first | omega | (simp <;> omega))).trans (by go_simp)
  have m5 : w2.cell? ⟨w.heap.size + 1, 3, none⟩ = some (.int .i64 h3) := (hc2 _ _ (by first | omega | (simp <;> omega))).trans (by go_simp)
  have mf5 : w2.frozen? ⟨w.heap.size + 1, 3, none⟩ = false := (hf2 _ _ (by first | omega | (simp <;> omega))).trans (by go_simp)
  have m6 : w2.cell? ⟨w.heap.size + 1 + 1, 0, none⟩ = some (.int .i64 0) := (hc2 _ _ (by first | omega | (simp <;> omega))).trans (by go_simp)
  have mf6 : w2.frozen? ⟨w.heap.size + 1 + 1, 0, none⟩ = false := (hf2 _ _ (by first | omega | (simp <;> omega))).trans (by go_simp)
  have m7 : w2.cell? ⟨w.heap.size + 1 + 1, 1, none⟩ = some (.slice none 0 0) := (hc2 _ _ (by first | omega | (simp <;> omega))).trans (by go_simp)
  have mf7 : w2.frozen? ⟨w.heap.size + 1 + 1, 1, none⟩ = false := (hf2 _ _ (by first | omega | (simp <;> omega))).trans (by go_simp)
  have m8 : w2.cell? ⟨w1.heap.size, 0, none⟩ = some (.int .i64 p) := (hc2 _ _ (by first | omega | (simp <;> omega))).trans (by go_simp)
  have mf8 : w2.frozen? ⟨w1.heap.size, 0, none⟩ = false := (hf2 _ _ (by first | omega | (simp <;> omega))).trans (by go_simp)
  have m9 : w2.cell? ⟨w1.heap.size, 1, none⟩ = some (.slice A1 xs.length c1) := (hc2 _ _ (by first | omega | (simp <;> omega))).trans (by go_simp)
  have mf9 : w2.frozen? ⟨w1.heap.size, 1, none⟩ = false := (hf2 _ _ (by first | omega | (simp <;> omega))).trans (by go_simp)
  have m10 : w2.cell? ⟨w1.heap.size + 1, 0, none⟩ = some (.int .i64 x.f0) := (hc2 _ _ (by first | omega | (simp <;> omega))).trans (by go_simp)
  have mf10 : w2.frozen? ⟨w1.heap.size + 1, 0, none⟩ = false := (hf2 _ _ (by first | omega | (simp <;> omega))).trans (by go_simp)
  have m11 : w2.cell? ⟨w1.heap.size + 1, 1, none⟩ = some (.int .i64 x.f1) := (hc2 _ _ (by first | omega | (simp <;> omega))).trans (by go_simp)
  have mf11 : w2.frozen? ⟨w1.heap.size + 1, 1, none⟩ = false := (hf2 _ _ (by first | omega | (simp <;> omega))).trans (by go_simp)
  have m12 : w2.cell? ⟨w1.heap.size + 1, 2, none⟩ = some (.string x.f2) := (hc2 _ _ (by first | omega | (simp <;> omega))).trans (by go_simp)
  have mf12 : w2.frozen? ⟨w1.heap.size + 1, 2, none⟩ = false := (hf2 _ _ (by first | omega | (simp <;> omega))).trans (by go_simp)
  clear hc2 hf2
  have mt0 : w.heap.size < w2.heap.size := (by omega)
  have mt1 : w.heap.size < w2.heap.size + 1 := (by omega)
  have mt2 : w.heap.size < w2.heap.size + 1 + 1 := (by omega)
  have mt3 : w.heap.size + 1 < w2.heap.size := (by omega)
  have mt4 : w.heap.size + 1 < w2.heap.size + 1 := (by omega)
  have mt5 : w.heap.size + 1 < w2.heap.size + 1 + 1 := (by omega)
  have mt6 : w.heap.size + 1 + 1 < w2.heap.size := (by omega)
  have mt7 : w.heap.size + 1 + 1 < w2.heap.size + 1 := (by omega)
  have mt8 : w.heap.size + 1 + 1 < w2.heap.size + 1 + 1 := (by omega)
  have mt9 : w1.heap.size < w2.heap.size := (by omega)
  have mt10 : w1.heap.size < w2.heap.size + 1 := (by omega)
  have mt11 : w1.heap.size < w2.heap.size + 1 + 1 := (by omega)
  have mt12 : w1.heap.size + 1 < w2.heap.size := (by omega)
  have mt13 : w1.heap.size + 1 < w2.heap.size + 1 := (by omega)
  have mt14 : w1.heap.size + 1 < w2.heap.size + 1 + 1 := (by omega)
  have HB2 := Lib.hid (fun k (hk : (Value.slice A2 (xs.length - 1) c2).ownBlock = some k) => (show w1.heap.size + 2 ≤ k ∧ k < w2.heap.size by have := ho2.block k hk; simp at this; omega))
  have HO2 := Lib.hid (ho2.lower (B' := w.heap.size) (by first | omega | (simp <;> omega)))
  have HL2 := Lib.hid (cut_length hklt)
  clear ho2
  go_wp2
  go_region
  all_goals
    go_wp2
    refine bodyPost_ret (v := .tuple #[.agg #[.int .i64 p, .slice A2 (xs.length - 1) c2], .slice (some ⟨w2.heap.size, 0, none⟩) 1 1, .int .i64 0]) (by simp [results, Try.results12, go_sem, *]) rfl (do_mk HL2.out rfl (by (repeat (first | (with_reducible refine Own.setCell ?_ (fun k hk => by have := HB2.out k hk; simp <;> omega) _) | (with_reducible refine own_alloc ?_ _) | (with_reducible refine own_drew ?_) | (with_reducible refine own_drewN ?_ _))); exact HO2.out) (rd_lit x (by first | omega | (simp <;> omega)) (by go_simp) (by go_simp) (by go_simp)) (fun k hk => by have h : w2.heap.size = k := Option.some.inj hk; omega) (by repeat (first | exact Below.refl _ _ | with_reducible apply bel_drew | with_reducible apply bel_drewN | with_reducible apply bel_alloc | (with_reducible refine bel_set ?_ (by first | omega | (simp <;> omega)) _) | (with_reducible refine bel_step ?_ (by assumption)) | (with_reducible refine bel_step ?_ (grown_none (by assumption))))))

set_option maxRecDepth 20000 in
set_option maxHeartbeats 400000 in
theorem do_k2any (p : Int) (A : Option Addr) (n c : Nat) (xs : List S39) (h1 h2 h3 : Int) (w : World) (hr : Rd dk w (.slice A n c) xs) (hl : xs.length < 64)
    (x : S39) (k : Nat) (hk : modv h1 xs.length = (k : Int)) (hx : xs[k]? = some x) :
    Calls Try.prog 12 #[.agg #[.int .i64 p, .slice A n c], .agg #[.int .i64 2, .int .i64 h1, .int .i64 h2, .int .i64 h3]] w fun e w' => DoIs w e w' p (cut xs k, [], 0) := by
  have hn := hr.len
  have hcap := hr.cap
  have H := Lib.hid hr
  clear hr
  subst hn
  obtain ⟨g, o, rfl, hg, hcx⟩ := H.out.at_ hx
  have cx0 := hcx 0 _ rfl
  have cx1 := hcx 1 _ rfl
  have cx2 := hcx 2 _ rfl
  clear hcx
  rw [show dk.sz = 3 from rfl] at cx0 cx1 cx2
  have M1 := fun W => mod_any h1 xs.length W (by have := (List.getElem?_eq_some_iff.1 hx).1; omega) (by omega)
  rw [hk] at M1
  have HM := Lib.hid M1
  have hklt : k < xs.length := (List.getElem?_eq_some_iff.1 hx).1
  have hxs : ((xs.length : Int) == 0) = false := beq_eq_false_iff_ne.2 (by omega)
  have HX := Lib.hid hx
  clear M1 hk hx
  go_enter Try.func12, Try.ntmps12
  go_wp2_with fail
  refine (copied_any p (some ⟨g, o, none⟩) xs.length c xs _ (rd_step H.out (by repeat (first | exact Below.refl _ _ | with_reducible apply bel_drew | with_reducible apply bel_drewN | with_reducible apply bel_alloc | (with_reducible refine bel_set ?_ (by first | omega | (simp <;> omega)) _) | (with_reducible refine bel_step ?_ (by assumption)) | (with_reducible refine bel_step ?_ (grown_none (by assumption)))))) (by omega)).mono ?_
  rintro e w1 ⟨A1, c1, rfl, ho, hb⟩
  have hz := hb.size
  simp at hz
  obtain ⟨hc, hf⟩ := bcell hb
  have k0 : w1.cell? ⟨w.heap.size, 0, none⟩ = some (.int .i64 p) := (hc _ _ (by first | omega | (simp <;> omega))).trans (by go_simp)
  have kf0 : w1.frozen? ⟨w.heap.size, 0, none⟩ = false := (hf _ _ (by first | omega | (simp <;> omega))).trans (by go_simp)
  have k1 : w1.cell? ⟨w.heap.size, 1, none⟩ = some (.slice (some ⟨g, o, none⟩) xs.length c) := (hc _ _ (by first | omega | (simp <;> omega))).trans (by go_simp)
  have kf1 : w1.frozen? ⟨w.heap.size, 1, none⟩ = false := (hf _ _ (by first | omega | (simp <;> omega))).trans (by go_simp)
  have k2 : w1.cell? ⟨w.heap.size + 1, 0, none⟩ = some (.int .i64 2) := (hc _ _ (by first | omega | (simp <;> omega))).trans (by go_simp)
  have kf2 : w1.frozen? ⟨w.heap.size + 1, 0, none⟩ = false := (hf _ _ (by first | omega | (simp <;> omega))).trans (by go_simp)
  have k3 : w1.cell? ⟨w.heap.size + 1, 1, none⟩ = some (.int .i64 h1) := (hc _ _ (by first | omega | (simp <;> omega))).trans (by go_simp)
  have kf3 : w1.frozen? ⟨w.heap.size + 1, 1, none⟩ = false := (hf _ _ (by first | omega | (simp <;> omega))).trans (by go_simp)
  have k4 : w1.cell? ⟨w.heap.size + 1, 2, none⟩ = some (.int .i64 h2) := (hc _ _ (by first | omega | (simp <;> omega))).trans (by go_simp)
  have kf4 : w1.frozen? ⟨w.heap.size + 1, 2, none⟩ = false := (hf _ _ (by first | omega | (simp <;> omega))).trans (by go_simp)
  have k5 : w1.cell? ⟨w.heap.size + 1, 3, none⟩ = some (.int .i64 h3) := (hc _ _ (by first | omega | (simp <;> omega))).trans (by go_simp)
  have kf5 : w1.frozen? ⟨w.heap.size + 1, 3, none⟩ = false := (hf _ _ (by first | omega | (simp <;> omega))).trans (by go_simp)
  have k6 : w1.cell? ⟨w.heap.size + 1 + 1, 0, none⟩ = some (.int .i64 0) := (hc _ _ (by first | omega | (simp <;> omega))).trans (by go_simp)
  have kf6 : w1.frozen? ⟨w.heap.size + 1 + 1, 0, none⟩ = false := (hf _ _ (by first | omega | (simp <;> omega))).trans (by go_simp)
  have k7 : w1.cell? ⟨w.heap.size + 1 + 1, 1, none⟩ = some (.slice none 0 0) := (hc _ _ (by first | omega | (simp <;> omega))).trans (by go_simp)
  have kf7 : w1.frozen? ⟨w.heap.size + 1 + 1, 1, none⟩ = false := (hf _ _ (by first | omega | (simp <;> omega))).trans (by go_simp)
  have HBW : Below w.heap.size w w1 := bel_step (by repeat (first | exact Below.refl _ _ | with_reducible apply bel_drew | with_reducible apply bel_drewN | with_reducible apply bel_alloc | (with_reducible refine bel_set ?_ (by first | omega | (simp <;> omega)) _) | (with_reducible refine bel_step ?_ (by assumption)) | (with_reducible refine bel_step ?_ (grown_none (by assumption))))) hb
  have gx0 : w1.cell? ⟨g, o + k * 3, none⟩ = some (.int .i64 x.f0) := (HBW.cell (p := ⟨g, _, none⟩) hg).trans cx0
  have gx1 : w1.cell? ⟨g, o + k * 3 + 1, none⟩ = some (.int .i64 x.f1) := (HBW.cell (p := ⟨g, _, none⟩) hg).trans cx1
  have gx2 : w1.cell? ⟨g, o + k * 3 + 2, none⟩ = some (.string x.f2) := (HBW.cell (p := ⟨g, _, none⟩) hg).trans cx2
  have gl0 : g < w1.heap.size := by omega
  have gl1 : g < w1.heap.size + 1 := by omega
  have gl2 : g < w1.heap.size + 1 + 1 := by omega
  clear hc hf
  have lt0 : w.heap.size < w1.heap.size := (by omega)
  have lt1 : w.heap.size < w1.heap.size + 1 := (by omega)
  have lt2 : w.heap.size < w1.heap.size + 1 + 1 := (by omega)
  have lt3 : w.heap.size < w1.heap.size + 1 + 1 + 1 := (by omega)
  have lt4 : w.heap.size + 1 < w1.heap.size := (by omega)
  have lt5 : w.heap.size + 1 < w1.heap.size + 1 := (by omega)
  have lt6 : w.heap.size + 1 < w1.heap.size + 1 + 1 := (by omega)
  have lt7 : w.heap.size + 1 < w1.heap.size + 1 + 1 + 1 := (by omega)
  have lt8 : w.heap.size + 1 + 1 < w1.heap.size := (by omega)
  have lt9 : w.heap.size + 1 + 1 < w1.heap.size + 1 := (by omega)
  have lt10 : w.heap.size + 1 + 1 < w1.heap.size + 1 + 1 := (by omega)
  have lt11 : w.heap.size + 1 + 1 < w1.heap.size + 1 + 1 + 1 := (by omega)
  have HB := Lib.hid (fun k (hk : (Value.slice A1 xs.length c1).ownBlock = some k) => (show w.heap.size + 3 ≤ k ∧ k < w1.heap.size by have := ho.block k hk; simp at this; omega))
  have HO := Lib.hid (ho.lower (B' := w.heap.size) (by first | omega | (simp <;> omega)))
  clear ho
  go_wp2_with (go_at_call 29; (with_reducible refine (HM.out _).mono ?_); rintro e w' ⟨rfl, rfl⟩)
  refine (cut_any k (some ⟨g, o, none⟩) xs.length c xs _ (rd_step H.out (by repeat (first | exact Below.refl _ _ | with_reducible apply bel_drew | with_reducible apply bel_drewN | with_reducible apply bel_alloc | (with_reducible refine bel_set ?_ (by first | omega | (simp <;> omega)) _) | (with_reducible refine bel_step ?_ (by assumption)) | (with_reducible refine bel_step ?_ (grown_none (by assumption)))))) (by omega) hklt).mono ?_
  rintro e w2 ⟨A2, c2, rfl, ho2, hb2⟩
  have hz2 := hb2.size
  simp at hz2
  obtain ⟨hc2, hf2⟩ := bcell hb2
  have m0 : w2.cell? ⟨w.heap.size, 0, none⟩ = some (.int .i64 p) := (hc2 _ _ (by first | omega | (simp <;> omega))).trans (by go_simp)
  have mf0 : w2.frozen? ⟨w.heap.size, 0, none⟩ = false := (hf2 _ _ (by first | omega | (simp <;> omega))).trans (by go_simp)
  have m1 : w2.cell? ⟨w.heap.size, 1, none⟩ = some (.slice (some ⟨g, o, none⟩) xs.length c) := (hc2 _ _ (by first | omega | (simp <;> omega))).trans (by go_simp)
  have mf1 : w2.frozen? ⟨w.heap.size, 1, none⟩ = false := (hf2 _ _ (by first | omega | (simp <;> omega))).trans (by go_simp)
  have m2 : w2.cell? ⟨w.heap.size + 1, 0, none⟩ = some (.int .i64 2) := (hc2 _ _ (by first | omega | (simp <;> omega))).trans (by go_simp)
  have mf2 : w2.frozen? ⟨w.heap.size + 1, 0, none⟩ = false := (hf2 _ _ (by first | omega | (simp <;> omega))).trans (by go_simp)
  have m3 : w2.cell? ⟨w.heap.size + 1, 1, none⟩ = some (.int .i64 h1) := (hc2 _ _ (by first | omega | (simp <;> omega))).trans (by go_simp)
  have mf3 : w2.frozen? ⟨w.heap.size + 1, 1, none⟩ = false := (hf2 _ _ (by first | omega | (simp <;> omega))).trans (by go_simp)
  have m4 : w2.cell? ⟨w.heap.size + 1, 2, none⟩ = some (.int .i64 h2) := (hc2 _ _ (by first | omega | (simp <;> omega))).trans (by go_simp)
  have mf4 : w2.frozen? ⟨w.heap.size + 1, 2, none⟩ = false := (hf2 _ _ (by first | omega | (simp <;> omega))).trans (by go_simp)
  have m5 : w2.cell? ⟨w.heap.size + 1, 3, none⟩ = some (.int .i64 h3) := (hc2 _ _ (by first | omega | (simp <;> omega))).trans (by go_simp)
  have mf5 : w2.frozen? ⟨w.heap.size + 1, 3, none⟩ = false := (hf2 _ _ (by first | omega | (simp <;> omega))).trans (by go_simp)
  have m6 : w2.cell? ⟨w.heap.size + 1 + 1, 0, none⟩ = some (.int .i64 0) := (hc2 _ _ (by first | omega | (simp <;> omega))).trans (by go_simp)
  have mf6 : w2.frozen? ⟨w.heap.size + 1 + 1, 0, none⟩ = false := (hf2 _ _ (by first | omega | (simp <;> omega))).trans (by go_simp)
  have m7 : w2.cell? ⟨w.heap.size + 1 + 1, 1, none⟩ = some (.slice none 0 0) := (hc2 _ _ (by first | omega | (simp <;> omega))).trans (by go_simp)
  have mf7 : w2.frozen? ⟨w.heap.size + 1 + 1, 1, none⟩ = false := (hf2 _ _ (by first | omega | (simp <;> omega))).trans (by go_simp)
  have m8 : w2.cell? ⟨w1.heap.size, 0, none⟩ = some (.int .i64 p) := (hc2 _ _ (by first | omega | (simp <;> omega))).trans (by go_simp)
  have mf8 : w2.frozen? ⟨w1.heap.size, 0, none⟩ = false := (hf2 _ _ (by first | omega | (simp <;> omega))).trans (by go_simp)
  have m9 : w2.cell? ⟨w1.heap.size, 1, none⟩ = some (.slice A1 xs.length c1) := (hc2 _ _ (by first | omega | (simp <;> omega))).trans (by go_simp)
  have mf9 : w2.frozen? ⟨w1.heap.size, 1, none⟩ = false := (hf2 _ _ (by first | omega | (simp <;> omega))).trans (by go_simp)
  have m10 : w2.cell? ⟨w1.heap.size + 1, 0, none⟩ = some (.int .i64 x.f0) := (hc2 _ _ (by first | omega | (simp <;> omega))).trans (by go_simp)
  have mf10 : w2.frozen? ⟨w1.heap.size + 1, 0, none⟩ = false := (hf2 _ _ (by first | omega | (simp <;> omega))).trans (by go_simp)
  have m11 : w2.cell? ⟨w1.heap.size + 1, 1, none⟩ = some (.int .i64 x.f1) := (hc2 _ _ (by first | omega | (simp <;> omega))).trans (by go_simp)
  have mf11 : w2.frozen? ⟨w1.heap.size + 1, 1, none⟩ = false := (hf2 _ _ (by first | omega | (simp <;> omega))).trans (by go_simp)
  have m12 : w2.cell? ⟨w1.heap.size + 1, 2, none⟩ = some (.string x.f2) := (hc2 _ _ (by first | omega | (simp <;> omega))).trans (by go_simp)
  have mf12 : w2.frozen? ⟨w1.heap.size + 1, 2, none⟩ = false := (hf2 _ _ (by first | omega | (simp <;> omega))).trans (by go_simp)
  clear hc2 hf2
  have mt0 : w.heap.size < w2.heap.size := (by omega)
  have mt1 : w.heap.size < w2.heap.size + 1 := (by omega)
  have mt2 : w.heap.size < w2.heap.size + 1 + 1 := (by omega)
  have mt3 : w.heap.size + 1 < w2.heap.size := (by omega)
  have mt4 : w.heap.size + 1 < w2.heap.size + 1 := (by omega)
  have mt5 : w.heap.size + 1 < w2.heap.size + 1 + 1 := (by omega)
  have mt6 : w.heap.size + 1 + 1 < w2.heap.size := (by omega)
  have mt7 : w.heap.size + 1 + 1 < w2.heap.size + 1 := (by omega)
  have mt8 : w.heap.size + 1 + 1 < w2.heap.size + 1 + 1 := (by omega)
  have mt9 : w1.heap.size < w2.heap.size := (by omega)
  have mt10 : w1.heap.size < w2.heap.size + 1 := (by omega)
  have mt11 : w1.heap.size < w2.heap.size + 1 + 1 := (by omega)
  have mt12 : w1.heap.size + 1 < w2.heap.size := (by omega)
  have mt13 : w1.heap.size + 1 < w2.heap.size + 1 := (by omega)
  have mt14 : w1.heap.size + 1 < w2.heap.size + 1 + 1 := (by omega)
  have HB2 := Lib.hid (fun k (hk : (Value.slice A2 (xs.length - 1) c2).ownBlock = some k) => (show w1.heap.size + 2 ≤ k ∧ k < w2.heap.size by have := ho2.block k hk; simp at this; omega))
  have HO2 := Lib.hid (ho2.lower (B' := w.heap.size) (by first | omega | (simp <;> omega)))
  have HL2 := Lib.hid (cut_length hklt)
  clear ho2
  go_wp2
  refine bodyPost_ret (v := .tuple #[.agg #[.int .i64 p, .slice A2 (xs.length - 1) c2], .slice none 0 0, .int .i64 0]) (by simp [results, Try.results12, go_sem, *]) rfl (do_mk HL2.out rfl (by (repeat (first | (with_reducible refine Own.setCell ?_ (fun k hk => by have := HB2.out k hk; simp <;> omega) _) | (with_reducible refine own_alloc ?_ _) | (with_reducible refine own_drew ?_) | (with_reducible refine own_drewN ?_ _))); exact HO2.out) (rd_none _) (none_block _) (by repeat (first | exact Below.refl _ _ | with_reducible apply bel_drew | with_reducible apply bel_drewN | with_reducible apply bel_alloc | (with_reducible refine bel_set ?_ (by first | omega | (simp <;> omega)) _) | (with_reducible refine bel_step ?_ (by assumption)) | (with_reducible refine bel_step ?_ (grown_none (by assumption))))))

set_option maxRecDepth 20000 in
set_option maxHeartbeats 400000 in
theorem do_k3any (p : Int) (A : Option Addr) (n c : Nat) (xs : List S39) (h1 h2 h3 : Int) (w : World) (hr : Rd dk w (.slice A n c) xs) (hl : xs.length < 64)
    (x : S39) (k : Nat) (hk : modv h1 xs.length = (k : Int)) (hx : xs[k]? = some x) :
    Calls Try.prog 12 #[.agg #[.int .i64 p, .slice A n c], .agg #[.int .i64 3, .int .i64 h1, .int .i64 h2, .int .i64 h3]] w fun e w' => DoIs w e w' p (xs ++ [x], [], 0) := by
  have hn := hr.len
  have hcap := hr.cap
  have H := Lib.hid hr
  clear hr
  subst hn
  obtain ⟨i0, hi, hz0, hs0, hz2⟩ := info_parts info39
  obtain ⟨g, o, rfl, hg, hcx⟩ := H.out.at_ hx
  have cx0 := hcx 0 _ rfl
  have cx1 := hcx 1 _ rfl
  have cx2 := hcx 2 _ rfl
  clear hcx
  rw [show dk.sz = 3 from rfl] at cx0 cx1 cx2
  have M1 := fun W => mod_any h1 xs.length W (by have := (List.getElem?_eq_some_iff.1 hx).1; omega) (by omega)
  rw [hk] at M1
  have HM := Lib.hid M1
  have hklt : k < xs.length := (List.getElem?_eq_some_iff.1 hx).1
  have hxs : ((xs.length : Int) == 0) = false := beq_eq_false_iff_ne.2 (by omega)
  have HX := Lib.hid hx
  clear M1 hk hx
  go_enter Try.func12, Try.ntmps12
  go_wp2_with fail
  refine (copied_any p (some ⟨g, o, none⟩) xs.length c xs _ (rd_step H.out (by repeat (first | exact Below.refl _ _ | with_reducible apply bel_drew | with_reducible apply bel_drewN | with_reducible apply bel_alloc | (with_reducible refine bel_set ?_ (by first | omega | (simp <;> omega)) _) | (with_reducible refine bel_step ?_ (by assumption)) | (with_reducible refine bel_step ?_ (grown_none (by assumption)))))) (by omega)).mono ?_
  rintro e w1 ⟨A1, c1, rfl, ho, hb⟩
  have hz := hb.size
  simp at hz
  obtain ⟨hc, hf⟩ := bcell hb
  have k0 : w1.cell? ⟨w.heap.size, 0, none⟩ = some (.int .i64 p) := (hc _ _ (by first | omega | (simp <;> omega))).trans (by go_simp)
  have kf0 : w1.frozen? ⟨w.heap.size, 0, none⟩ = false := (hf _ _ (by first | omega | (simp <;> omega))).trans (by go_simp)
  have k1 : w1.cell? ⟨w.heap.size, 1, none⟩ = some (.slice (some ⟨g, o, none⟩) xs.length c) := (hc _ _ (by first | omega | (simp <;> omega))).trans (by go_simp)
  have kf1 : w1.frozen? ⟨w.heap.size, 1, none⟩ = false := (hf _ _ (by first | omega | (simp <;> omega))).trans (by go_simp)
  have k2 : w1.cell? ⟨w.heap.size + 1, 0, none⟩ = some (.int .i64 3) := (hc _ _ (by first | omega | (simp <;> omega))).trans (by go_simp)
  have kf2 : w1.frozen? ⟨w.heap.size + 1, 0, none⟩ = false := (hf _ _ (by first | omega | (simp <;> omega))).trans (by go_simp)
  have k3 : w1.cell? ⟨w.heap.size + 1, 1, none⟩ = some (.int .i64 h1) := (hc _ _ (by first | omega | (simp <;> omega))).trans (by go_simp)
  have kf3 : w1.frozen? ⟨w.heap.size + 1, 1, none⟩ = false := (hf _ _ (by first | omega | (simp <;> omega))).trans (by go_simp)
  have k4 : w1.cell? ⟨w.heap.size + 1, 2, none⟩ = some (.int .i64 h2) := (hc _ _ (by first | omega | (simp <;> omega))).trans (by go_simp)
  have kf4 : w1.frozen? ⟨w.heap.size + 1, 2, none⟩ = false := (hf _ _ (by first | omega | (simp <;> omega))).trans (by go_simp)
  have k5 : w1.cell? ⟨w.heap.size + 1, 3, none⟩ = some (.int .i64 h3) := (hc _ _ (by first | omega | (simp <;> omega))).trans (by go_simp)
  have kf5 : w1.frozen? ⟨w.heap.size + 1, 3, none⟩ = false := (hf _ _ (by first | omega | (simp <;> omega))).trans (by go_simp)
  have k6 : w1.cell? ⟨w.heap.size + 1 + 1, 0, none⟩ = some (.int .i64 0) := (hc _ _ (by first | omega | (simp <;> omega))).trans (by go_simp)
  have kf6 : w1.frozen? ⟨w.heap.size + 1 + 1, 0, none⟩ = false := (hf _ _ (by first | omega | (simp <;> omega))).trans (by go_simp)
  have k7 : w1.cell? ⟨w.heap.size + 1 + 1, 1, none⟩ = some (.slice none 0 0) := (hc _ _ (by first | omega | (simp <;> omega))).trans (by go_simp)
  have kf7 : w1.frozen? ⟨w.heap.size + 1 + 1, 1, none⟩ = false := (hf _ _ (by first | omega | (simp <;> omega))).trans (by go_simp)
  have HBW : Below w.heap.size w w1 := bel_step (by repeat (first | exact Below.refl _ _ | with_reducible apply bel_drew | with_reducible apply bel_drewN | with_reducible apply bel_alloc | (with_reducible refine bel_set ?_ (by first | omega | (simp <;> omega)) _) | (with_reducible refine bel_step ?_ (by assumption)) | (with_reducible refine bel_step ?_ (grown_none (by assumption))))) hb
  have gx0 : w1.cell? ⟨g, o + k * 3, none⟩ = some (.int .i64 x.f0) := (HBW.cell (p := ⟨g, _, none⟩) hg).trans cx0
  have gx1 : w1.cell? ⟨g, o + k * 3 + 1, none⟩ = some (.int .i64 x.f1) := (HBW.cell (p := ⟨g, _, none⟩) hg).trans cx1
  have gx2 : w1.cell? ⟨g, o + k * 3 + 2, none⟩ = some (.string x.f2) := (HBW.cell (p := ⟨g, _, none⟩) hg).trans cx2
  have gl0 : g < w1.heap.size := by omega
  have gl1 : g < w1.heap.size + 1 := by omega
  have gl2 : g < w1.heap.size + 1 + 1 := by omega
  clear hc hf
  have lt0 : w.heap.size < w1.heap.size := (by omega)
  have lt1 : w.heap.size < w1.heap.size + 1 := (by omega)
  have lt2 : w.heap.size < w1.heap.size + 1 + 1 := (by omega)
  have lt3 : w.heap.size < w1.heap.size + 1 + 1 + 1 := (by omega)
  have lt4 : w.heap.size + 1 < w1.heap.size := (by omega)
  have lt5 : w.heap.size + 1 < w1.heap.size + 1 := (by omega)
  have lt6 : w.heap.size + 1 < w1.heap.size + 1 + 1 := (by omega)
  have lt7 : w.heap.size + 1 < w1.heap.size + 1 + 1 + 1 := (by omega)
  have lt8 : w.heap.size + 1 + 1 < w1.heap.size := (by omega)
  have lt9 : w.heap.size + 1 + 1 < w1.heap.size + 1 := (by omega)
  have lt10 : w.heap.size + 1 + 1 < w1.heap.size + 1 + 1 := (by omega)
  have lt11 : w.heap.size + 1 + 1 < w1.heap.size + 1 + 1 + 1 := (by omega)
  have HB := Lib.hid (fun k (hk : (Value.slice A1 xs.length c1).ownBlock = some k) => (show w.heap.size + 3 ≤ k ∧ k < w1.heap.size by have := ho.block k hk; simp at this; omega))
  have HO := Lib.hid (ho.lower (B' := w.heap.size) (by first | omega | (simp <;> omega)))
  clear ho
  go_wp2_with (first | (go_at_call 29; (with_reducible refine (HM.out _).mono ?_); rintro e w' ⟨rfl, rfl⟩) | (at_builtin; refine wpList_append_rd (d := dk) (v := .slice A1 xs.length c1) (y := .slice (some ⟨w1.heap.size + 1 + 1, 0, none⟩) 1 1) (xs := xs) (ys := [x]) rfl _ _ 27 rfl 39 i0 _ 32 w.heap.size Try.underlying27 hi hz0 hs0 hz2 rfl rfl (own_still HO.out (by repeat (first | exact Below.refl _ _ | with_reducible apply bel_drew | with_reducible apply bel_drewN | with_reducible apply bel_alloc | (with_reducible refine bel_set ?_ (by first | omega | (simp <;> omega)) _) | (with_reducible refine bel_step ?_ (by assumption)) | (with_reducible refine bel_step ?_ (grown_none (by assumption)))))) rfl (rd_lit _ (by first | omega | (simp <;> omega)) (by go_simp) (by go_simp) (by go_simp)) (by first | omega | (simp <;> omega)) (by unfold maxLen; simp <;> omega) (by first | omega | (simp <;> omega)) (xs.length + 1) (by simp) ?_; intro A2 c2 w2 ho2 hg2 hat2; have hzz := hg2.size; simp at hzz; have m0 : w2.cell? ⟨w.heap.size, 0, none⟩ = some (.int .i64 p) := ((grown_cell hg2 (by first | omega | (simp <;> omega)) (fun e => by have := HB.out _ e; first | omega | (simp at this <;> omega))).1 _).trans (by go_simp); have mf0 : w2.frozen? ⟨w.heap.size, 0, none⟩ = false := ((grown_cell hg2 (by first | omega | (simp <;> omega)) (fun e => by have := HB.out _ e; first | omega | (simp at this <;> omega))).2 _).trans (by go_simp); have m1 : w2.cell? ⟨w.heap.size, 1, none⟩ = some (.slice (some ⟨g, o, none⟩) xs.length c) := ((grown_cell hg2 (by first | omega | (simp <;> omega)) (fun e => by have := HB.out _ e; first | omega | (simp at this <;> omega))).1 _).trans (by go_simp); have mf1 : w2.frozen? ⟨w.heap.size, 1, none⟩ = false := ((grown_cell hg2 (by first | omega | (simp <;> omega)) (fun e => by have := HB.out _ e; first | omega | (simp at this <;> omega))).2 _).trans (by go_simp); have m2 : w2.cell? ⟨w.heap.size + 1, 0, none⟩ = some (.int .i64 3) := ((grown_cell hg2 (by first | omega | (simp <;> omega)) (fun e => by have := HB.out _ e; first | omega | (simp at this <;> omega))).1 _).trans (by go_simp); have mf2 : w2.frozen? ⟨w.heap.size + 1, 0, none⟩ = false := ((grown_cell hg2 (by first | omega | (simp <;> omega)) (fun e => by have := HB.out _ e; first | omega | (simp at this <;> omega))).2 _).trans (by go_simp); have m3 : w2.cell? ⟨w.heap.size + 1, 1, none⟩ = some (.int .i64 h1) := ((grown_cell hg2 (by first | omega | (simp <;> omega)) (fun e => by have := HB.out _ e; first | omega | (simp at this <;> omega))).1 _).trans (by go_simp); have mf3 : w2.frozen? ⟨w.heap.size + 1, 1, none⟩ = false := ((grown_cell hg2 (by first | omega | (simp <;> omega)) (fun e => by have := HB.out _ e; first | omega | (simp at this <;> omega))).2 _).trans (by go_simp); have m4 : w2.cell? ⟨w.heap.size + 1, 2, none⟩ = some (.int .i64 h2) := ((grown_cell hg2 (by first | omega | (simp <;> omega)) (fun e => by have := HB.out _ e; first | omega | (simp at this <;> omega))).1 _).trans (by go_simp); have mf4 : w2.frozen? ⟨w.heap.size + 1, 2, none⟩ = false := ((grown_cell hg2 (by first | omega | (simp <;> omega)) (fun e => by have := HB.out _ e; first | omega | (simp at this <;> omega))).2 _).trans (by go_simp); have m5 : w2.cell? ⟨w.heap.size + 1, 3, none⟩ = some (.int .i64 h3) := ((grown_cell hg2 (by first | omega | (simp <;> omega)) (fun e => by have := HB.out _ e; first | omega | (simp at this <;> omega))).1 _).trans (by go_simp); have mf5 : w2.frozen? ⟨w.heap.size + 1, 3, none⟩ = false := ((grown_cell hg2 (by first | omega | (simp <;> omega)) (fun e => by have := HB.out _ e; first | omega | (simp at this <;> omega))).2 _).trans (by go_simp); have m6 : w2.cell? ⟨w.heap.size + 1 + 1, 0, none⟩ = some (.int .i64 0) := ((grown_cell hg2 (by first | omega | (simp <;> omega)) (fun e => by have := HB.out _ e; first | omega | (simp at this <;> omega))).1 _).trans (by go_simp); have mf6 : w2.frozen? ⟨w.heap.size + 1 + 1, 0, none⟩ = false := ((grown_cell hg2 (by first | omega | (simp <;> omega)) (fun e => by have := HB.out _ e; first | omega | (simp at this <;> omega))).2 _).trans (by go_simp); have m7 : w2.cell? ⟨w.heap.size + 1 + 1, 1, none⟩ = some (.slice none 0 0) := ((grown_cell hg2 (by first | omega | (simp <;> omega)) (fun e => by have := HB.out _ e; first | omega | (simp at this <;> omega))).1 _).trans (by go_simp); have mf7 : w2.frozen? ⟨w.heap.size + 1 + 1, 1, none⟩ = false := ((grown_cell hg2 (by first | omega | (simp <;> omega)) (fun e => by have := HB.out _ e; first | omega | (simp at this <;> omega))).2 _).trans (by go_simp); have m8 : w2.cell? ⟨w1.heap.size, 0, none⟩ = some (.int .i64 p) := ((grown_cell hg2 (by first | omega | (simp <;> omega)) (fun e => by have := HB.out _ e; first | omega | (simp at this <;> omega))).1 _).trans (by go_simp); have mf8 : w2.frozen? ⟨w1.heap.size, 0, none⟩ = false := ((grown_cell hg2 (by first | omega | (simp <;> omega)) (fun e => by have := HB.out _ e; first | omega | (simp at this <;> omega))).2 _).trans (by go_simp); have m9 : w2.cell? ⟨w1.heap.size, 1, none⟩ = some (.slice A1 xs.length c1) := ((grown_cell hg2 (by first | omega | (simp <;> omega)) (fun e => by have := HB.out _ e; first | omega | (simp at this <;> omega))).1 _).trans (by go_simp); have mf9 : w2.frozen? ⟨w1.heap.size, 1, none⟩ = false := ((grown_cell hg2 (by first | omega | (simp <;> omega)) (fun e => by have := HB.out _ e; first | omega | (simp at this <;> omega))).2 _).trans (by go_simp); have m10 : w2.cell? ⟨w1.heap.size + 1, 0, none⟩ = some (.int .i64 x.f0) := ((grown_cell hg2 (by first | omega | (simp <;> omega)) (fun e => by have := HB.out _ e; first | omega | (simp at this <;> omega))).1 _).trans (by go_simp); have mf10 : w2.frozen? ⟨w1.heap.size + 1, 0, none⟩ = false := ((grown_cell hg2 (by first | omega | (simp <;> omega)) (fun e => by have := HB.out _ e; first | omega | (simp at this <;> omega))).2 _).trans (by go_simp); have m11 : w2.cell? ⟨w1.heap.size + 1, 1, none⟩ = some (.int .i64 x.f1) := ((grown_cell hg2 (by first | omega | (simp <;> omega)) (fun e => by have := HB.out _ e; first | omega | (simp at this <;> omega))).1 _).trans (by go_simp); have mf11 : w2.frozen? ⟨w1.heap.size + 1, 1, none⟩ = false := ((grown_cell hg2 (by first | omega | (simp <;> omega)) (fun e => by have := HB.out _ e; first | omega | (simp at this <;> omega))).2 _).trans (by go_simp); have m12 : w2.cell? ⟨w1.heap.size + 1, 2, none⟩ = some (.string x.f2) := ((grown_cell hg2 (by first | omega | (simp <;> omega)) (fun e => by have := HB.out _ e; first | omega | (simp at this <;> omega))).1 _).trans (by go_simp); have mf12 : w2.frozen? ⟨w1.heap.size + 1, 2, none⟩ = false := ((grown_cell hg2 (by first | omega | (simp <;> omega)) (fun e => by have := HB.out _ e; first | omega | (simp at this <;> omega))).2 _).trans (by go_simp); have mt0 : w.heap.size < w2.heap.size := (by omega); have mt1 : w.heap.size < w2.heap.size + 1 := (by omega); have mt2 : w.heap.size + 1 < w2.heap.size := (by omega); have mt3 : w.heap.size + 1 < w2.heap.size + 1 := (by omega); have mt4 : w.heap.size + 1 + 1 < w2.heap.size := (by omega); have mt5 : w.heap.size + 1 + 1 < w2.heap.size + 1 := (by omega); have mt6 : w1.heap.size < w2.heap.size := (by omega); have mt7 : w1.heap.size < w2.heap.size + 1 := (by omega); have mt8 : w1.heap.size + 1 < w2.heap.size := (by omega); have mt9 : w1.heap.size + 1 < w2.heap.size + 1 := (by omega); have HB2 := Lib.hid (show ∀ k, (Value.slice A2 (xs.length + 1) c2).ownBlock = some k → (w.heap.size + 3 ≤ k ∧ k ≠ w1.heap.size ∧ k ≠ w1.heap.size + 1) from block_at hat2 (fun k => w.heap.size + 3 ≤ k ∧ k ≠ w1.heap.size ∧ k ≠ w1.heap.size + 1) (fun k hk => by have := HB.out k hk; omega) (by first | omega | (simp <;> omega))); have HO2 := Lib.hid ho2; have hb2 := bel_grown (W := w) (by repeat (first | exact Below.refl _ _ | with_reducible apply bel_drew | with_reducible apply bel_drewN | with_reducible apply bel_alloc | (with_reducible refine bel_set ?_ (by first | omega | (simp <;> omega)) _) | (with_reducible refine bel_step ?_ (by assumption)) | (with_reducible refine bel_step ?_ (grown_none (by assumption))))) hg2 (fun k hk => by have := HB.out k hk; omega); clear hat2 ho2 hg2))
  refine bodyPost_ret (v := .tuple #[.agg #[.int .i64 p, .slice A2 (xs.length + 1) c2], .slice none 0 0, .int .i64 0]) (by simp [results, Try.results12, go_sem, *]) rfl (do_mk (by simp) rfl (by (repeat (first | (with_reducible refine Own.setCell ?_ (fun k hk => by have := HB2.out k hk; simp <;> omega) _) | (with_reducible refine own_alloc ?_ _) | (with_reducible refine own_drew ?_) | (with_reducible refine own_drewN ?_ _))); exact HO2.out) (rd_none _) (none_block _) (by repeat (first | exact Below.refl _ _ | with_reducible apply bel_drew | with_reducible apply bel_drewN | with_reducible apply bel_alloc | (with_reducible refine bel_set ?_ (by first | omega | (simp <;> omega)) _) | (with_reducible refine bel_step ?_ (by assumption)) | (with_reducible refine bel_step ?_ (grown_none (by assumption))))))

end Go.Proofs.Ytkcijghflaoccaa.Nw
