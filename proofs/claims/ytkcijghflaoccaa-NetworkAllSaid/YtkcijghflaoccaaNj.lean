/- Do: forges. -/
import Derived.Test.YtkcijghflaoccaaNf
import Derived.Outline
namespace Go.Proofs.Ytkcijghflaoccaa.Nw
open Go.RowKit Go.Proofs.Ytkcijghflaoccaa.Ow Go.Proofs.Ytkcijghflaoccaa.PNetworkAll
set_option linter.unusedVariables false
set_option linter.unusedSimpArgs false

set_option maxRecDepth 20000 in
set_option maxHeartbeats 1000000 in
theorem do_k5any (p : Int) (A : Option Addr) (n c : Nat) (xs : List S39) (h1 h2 h3 : Int) (w : World) (hr : Rd dk w (.slice A n c) xs) (hl : xs.length < 64)
    (x : S39) (k : Nat) (hk : modv h1 xs.length = (k : Int)) (hx : xs[k]? = some x) (hx2 : x.f2.size ≤ 1000) :
    Calls Try.prog 12 #[.agg #[.int .i64 p, .slice A n c], .agg #[.int .i64 5, .int .i64 h1, .int .i64 h2, .int .i64 h3]] w fun e w' => DoIs w e w' p (xs.set k ⟨x.f0, x.f1, forge x.f2 h2 h3⟩, [], 0) := by
  have hn := hr.len
  have hcap := hr.cap
  have H := Lib.hid hr
  clear hr
  subst hn
  obtain ⟨g, o, rfl, hg, hcx⟩ := H.out.at_ hx
  have cx0 := hcx 0 _ rfl
  have cx1 := hcx 1 _ rfl
  have cx2 := hcx 2 _ rfl
  clear hcx
  rw [show dk.sz = 3 from rfl] at cx0 cx1 cx2
  have M1 := fun W => mod_any h1 xs.length W (by have := (List.getElem?_eq_some_iff.1 hx).1; omega) (by omega)
  rw [hk] at M1
  have HM := Lib.hid M1
  have hklt : k < xs.length := (List.getElem?_eq_some_iff.1 hx).1
  have hxs : ((xs.length : Int) == 0) = false := beq_eq_false_iff_ne.2 (by omega)
  have HX := Lib.hid hx
  clear M1 hk hx
  go_enter Try.func12, Try.ntmps12
  go_wp2_with fail
  refine (copied_any p (some ⟨g, o, none⟩) xs.length c xs _ (rd_step H.out (by repeat (first | exact Below.refl _ _ | with_reducible apply bel_drew | with_reducible apply bel_drewN | with_reducible apply bel_alloc | (with_reducible refine bel_set ?_ (by first | omega | (simp <;> omega)) _) | (with_reducible refine bel_step ?_ (by assumption)) | (with_reducible refine bel_step ?_ (grown_none (by assumption)))))) (by omega)).mono ?_
  rintro e w1 ⟨A1, c1, rfl, ho, hb⟩
  have hz := hb.size
  simp at hz
  obtain ⟨hc, hf⟩ := bcell hb
  have k0 : w1.cell? ⟨w.heap.size, 0, none⟩ = some (.int .i64 p) := (hc _ _ (by first | omega | (simp <;> omega))).trans (by go_simp)
  have kf0 : w1.frozen? ⟨w.heap.size, 0, none⟩ = false := (hf _ _ (by first | omega | (simp <;> omega))).trans (by go_simp)
  have k1 : w1.cell? ⟨w.heap.size, 1, none⟩ = some (.slice (some ⟨g, o, none⟩) xs.length c) := (hc _ _ (by first | omega | (simp <;> omega))).trans (by go_simp)
  have kf1 : w1.frozen? ⟨w.heap.size, 1, none⟩ = false := (hf _ _ (by first | omega | (simp <;> omega))).trans (by go_simp)
  have k2 : w1.cell? ⟨w.heap.size + 1, 0, none⟩ = some (.int .i64 5) := (hc _ _ (by first | omega | (simp <;> omega))).trans (by go_simp)
  have kf2 : w1.frozen? ⟨w.heap.size + 1, 0, none⟩ = false := (hf _ _ (by first | omega | (simp <;> omega))).trans (by go_simp)
  have k3 : w1.cell? ⟨w.heap.size + 1, 1, none⟩ = some (.int .i64 h1) := (hc _ _ (by first | omega | (simp <;> omega))).trans (by go_simp)
  have kf3 : w1.frozen? ⟨w.heap.size + 1, 1, none⟩ = false := (hf _ _ (by first | omega | (simp <;> omega))).trans (by go_simp)
  have k4 : w1.cell? ⟨w.heap.size + 1, 2, none⟩ = some (.int .i64 h2) := (hc _ _ (by first | omega | (simp <;> omega))).trans (by go_simp)
  have kf4 : w1.frozen? ⟨w.heap.size + 1, 2, none⟩ = false := (hf _ _ (by first | omega | (simp <;> omega))).trans (by go_simp)
  have k5 : w1.cell? ⟨w.heap.size + 1, 3, none⟩ = some (.int .i64 h3) := (hc _ _ (by first | omega | (simp <;> omega))).trans (by go_simp)
  have kf5 : w1.frozen? ⟨w.heap.size + 1, 3, none⟩ = false := (hf _ _ (by first | omega | (simp <;> omega))).trans (by go_simp)
  have k6 : w1.cell? ⟨w.heap.size + 1 + 1, 0, none⟩ = some (.int .i64 0) := (hc _ _ (by first | omega | (simp <;> omega))).trans (by go_simp)
  have kf6 : w1.frozen? ⟨w.heap.size + 1 + 1, 0, none⟩ = false := (hf _ _ (by first | omega | (simp <;> omega))).trans (by go_simp)
  have k7 : w1.cell? ⟨w.heap.size + 1 + 1, 1, none⟩ = some (.slice none 0 0) := (hc _ _ (by first | omega | (simp <;> omega))).trans (by go_simp)
  have kf7 : w1.frozen? ⟨w.heap.size + 1 + 1, 1, none⟩ = false := (hf _ _ (by first | omega | (simp <;> omega))).trans (by go_simp)
  have HBW : Below w.heap.size w w1 := bel_step (by repeat (first | exact Below.refl _ _ | with_reducible apply bel_drew | with_reducible apply bel_drewN | with_reducible apply bel_alloc | (with_reducible refine bel_set ?_ (by first | omega | (simp <;> omega)) _) | (with_reducible refine bel_step ?_ (by assumption)) | (with_reducible refine bel_step ?_ (grown_none (by assumption))))) hb
  have gx0 : w1.cell? ⟨g, o + k * 3, none⟩ = some (.int .i64 x.f0) := (HBW.cell (p := ⟨g, _, none⟩) hg).trans cx0
  have gx1 : w1.cell? ⟨g, o + k * 3 + 1, none⟩ = some (.int .i64 x.f1) := (HBW.cell (p := ⟨g, _, none⟩) hg).trans cx1
  have gx2 : w1.cell? ⟨g, o + k * 3 + 2, none⟩ = some (.string x.f2) := (HBW.cell (p := ⟨g, _, none⟩) hg).trans cx2
  have gl0 : g < w1.heap.size := by omega
  have gl1 : g < w1.heap.size + 1 := by omega
  have gl2 : g < w1.heap.size + 1 + 1 := by omega
  have hfo : ∃ g1, A1 = some ⟨g1, 0, none⟩ ∧ w.heap.size + 3 ≤ g1 ∧ g1 < w1.heap.size ∧ w1.cell? ⟨g1, k * 3 + 2, none⟩ = some (.string x.f2) ∧ w1.frozen? ⟨g1, k * 3 + 2, none⟩ = false := by
    rcases ho.form with ⟨h, h0⟩ | ⟨g1, c1', cur, hv, _, _, hB, hlt, hh, hs, ht⟩
    · simp only [Value.slice.injEq] at h; omega
    · simp only [Value.slice.injEq] at hv
      obtain ⟨rfl, _, rfl⟩ := hv
      obtain ⟨g2, o2, e2, _, hc3⟩ := ho.rd.at_ HX.out
      simp only [Option.some.injEq, Addr.mk.injEq] at e2
      obtain ⟨rfl, rfl, _⟩ := e2
      have h3 := hc3 2 _ rfl
      refine ⟨g1, rfl, by simp at hB; omega, hlt, ?_, frozen_of_row _ _ _ _ _ hh⟩
      rw [show 0 + k * dk.sz + 2 = k * 3 + 2 by show 0 + k * 3 + 2 = _; omega] at h3
      exact h3
  obtain ⟨g1, rfl, gb1, gb2, gc1, gc2⟩ := hfo
  have ge0 : g1 < w1.heap.size + 1 := by omega
  have ge1 : g1 < w1.heap.size + 1 + 1 := by omega
  clear hc hf
  have lt0 : w.heap.size < w1.heap.size := (by omega)
  have lt1 : w.heap.size < w1.heap.size + 1 := (by omega)
  have lt2 : w.heap.size < w1.heap.size + 1 + 1 := (by omega)
  have lt3 : w.heap.size < w1.heap.size + 1 + 1 + 1 := (by omega)
  have lt4 : w.heap.size + 1 < w1.heap.size := (by omega)
  have lt5 : w.heap.size + 1 < w1.heap.size + 1 := (by omega)
  have lt6 : w.heap.size + 1 < w1.heap.size + 1 + 1 := (by omega)
  have lt7 : w.heap.size + 1 < w1.heap.size + 1 + 1 + 1 := (by omega)
  have lt8 : w.heap.size + 1 + 1 < w1.heap.size := (by omega)
  have lt9 : w.heap.size + 1 + 1 < w1.heap.size + 1 := (by omega)
  have lt10 : w.heap.size + 1 + 1 < w1.heap.size + 1 + 1 := (by omega)
  have lt11 : w.heap.size + 1 + 1 < w1.heap.size + 1 + 1 + 1 := (by omega)
  have HB := Lib.hid (fun k (hk : (Value.slice (some ⟨g1, 0, none⟩) xs.length c1).ownBlock = some k) => (show w.heap.size + 3 ≤ k ∧ k < w1.heap.size by have := ho.block k hk; simp at this; omega))
  have HO := Lib.hid (ho.lower (B' := w.heap.size) (by first | omega | (simp <;> omega)))
  clear ho
  go_wp2_with (go_at_call 29; (with_reducible refine (HM.out _).mono ?_); rintro e w' ⟨rfl, rfl⟩)
  go_region_held3 (fun w' => w'.cell? ⟨w1.heap.size, 1, none⟩ = some (.slice (some ⟨g1, 0, none⟩) xs.length c1) ∧ w'.cell? ⟨w1.heap.size + 1, 2, none⟩ = some (.string x.f2) ∧ w'.cell? ⟨w.heap.size + 1, 2, none⟩ = some (.int .i64 h2) ∧ w'.cell? ⟨w.heap.size + 1, 3, none⟩ = some (.int .i64 h3)) (first | (refine ⟨?_, ?_, ?_, ?_⟩ <;> go_simp))
    (first | (go_at_call 31; refine (forged_any x.f2 h2 h3 _ hx2).mono ?_; rintro e w2 ⟨rfl, hb2⟩; have hzc := hb2.size; (try simp at hzc); obtain ⟨hc2, hf2⟩ := bcell hb2; have m0 : w2.cell? ⟨w.heap.size, 0, none⟩ = some (.int .i64 p) := (hc2 _ _ (by first | omega | (simp <;> omega))).trans (by go_simp); have mf0 : w2.frozen? ⟨w.heap.size, 0, none⟩ = false := (hf2 _ _ (by first | omega | (simp <;> omega))).trans (by go_simp); have m1 : w2.cell? ⟨w.heap.size, 1, none⟩ = some (.slice (some ⟨g, o, none⟩) xs.length c) := (hc2 _ _ (by first | omega | (simp <;> omega))).trans (by go_simp); have mf1 : w2.frozen? ⟨w.heap.size, 1, none⟩ = false := (hf2 _ _ (by first | omega | (simp <;> omega))).trans (by go_simp); have m2 : w2.cell? ⟨w.heap.size + 1, 0, none⟩ = some (.int .i64 5) := (hc2 _ _ (by first | omega | (simp <;> omega))).trans (by go_simp); have mf2 : w2.frozen? ⟨w.heap.size + 1, 0, none⟩ = false := (hf2 _ _ (by first | omega | (simp <;> omega))).trans (by go_simp); have m3 : w2.cell? ⟨w.heap.size + 1, 1, none⟩ = some (.int .i64 h1) := (hc2 _ _ (by first | omega | (simp <;> omega))).trans (by go_simp); have mf3 : w2.frozen? ⟨w.heap.size + 1, 1, none⟩ = false := (hf2 _ _ (by first | omega | (simp <;> omega))).trans (by go_simp); have m4 : w2.cell? ⟨w.heap.size + 1, 2, none⟩ = some (.int .i64 h2) := (hc2 _ _ (by first | omega | (simp <;> omega))).trans (by go_simp); have mf4 : w2.frozen? ⟨w.heap.size + 1, 2, none⟩ = false := (hf2 _ _ (by first | omega | (simp <;> omega))).trans (by go_simp); have m5 : w2.cell? ⟨w.heap.size + 1, 3, none⟩ = some (.int .i64 h3) := (hc2 _ _ (by first | omega | (simp <;> omega))).trans (by go_simp); have mf5 : w2.frozen? ⟨w.heap.size + 1, 3, none⟩ = false := (hf2 _ _ (by first | omega | (simp <;> omega))).trans (by go_simp); have m6 : w2.cell? ⟨w.heap.size + 1 + 1, 0, none⟩ = some (.int .i64 0) := (hc2 _ _ (by first | omega | (simp <;> omega))).trans (by go_simp); have mf6 : w2.frozen? ⟨w.heap.size + 1 + 1, 0, none⟩ = false := (hf2 _ _ (by first | omega | (simp <;> omega))).trans (by go_simp); have m7 : w2.cell? ⟨w.heap.size + 1 + 1, 1, none⟩ = some (.slice none 0 0) := (hc2 _ _ (by first | omega | (simp <;> omega))).trans (by go_simp); have mf7 : w2.frozen? ⟨w.heap.size + 1 + 1, 1, none⟩ = false := (hf2 _ _ (by first | omega | (simp <;> omega))).trans (by go_simp); have m8 : w2.cell? ⟨w1.heap.size, 0, none⟩ = some (.int .i64 p) := (hc2 _ _ (by first | omega | (simp <;> omega))).trans (by go_simp); have mf8 : w2.frozen? ⟨w1.heap.size, 0, none⟩ = false := (hf2 _ _ (by first | omega | (simp <;> omega))).trans (by go_simp); have m9 : w2.cell? ⟨w1.heap.size, 1, none⟩ = some (.slice (some ⟨g1, 0, none⟩) xs.length c1) := (hc2 _ _ (by first | omega | (simp <;> omega))).trans (by go_simp); have mf9 : w2.frozen? ⟨w1.heap.size, 1, none⟩ = false := (hf2 _ _ (by first | omega | (simp <;> omega))).trans (by go_simp); have m10 : w2.cell? ⟨w1.heap.size + 1, 0, none⟩ = some (.int .i64 x.f0) := (hc2 _ _ (by first | omega | (simp <;> omega))).trans (by go_simp); have mf10 : w2.frozen? ⟨w1.heap.size + 1, 0, none⟩ = false := (hf2 _ _ (by first | omega | (simp <;> omega))).trans (by go_simp); have m11 : w2.cell? ⟨w1.heap.size + 1, 1, none⟩ = some (.int .i64 x.f1) := (hc2 _ _ (by first | omega | (simp <;> omega))).trans (by go_simp); have mf11 : w2.frozen? ⟨w1.heap.size + 1, 1, none⟩ = false := (hf2 _ _ (by first | omega | (simp <;> omega))).trans (by go_simp); have m12 : w2.cell? ⟨w1.heap.size + 1, 2, none⟩ = some (.string x.f2) := (hc2 _ _ (by first | omega | (simp <;> omega))).trans (by go_simp); have mf12 : w2.frozen? ⟨w1.heap.size + 1, 2, none⟩ = false := (hf2 _ _ (by first | omega | (simp <;> omega))).trans (by go_simp); have mt0 : w.heap.size < w2.heap.size := (by omega); have mt1 : w.heap.size + 1 < w2.heap.size := (by omega); have mt2 : w.heap.size + 1 + 1 < w2.heap.size := (by omega); have mt3 : w1.heap.size < w2.heap.size := (by omega); have mt4 : w1.heap.size + 1 < w2.heap.size := (by omega); have mt5 : g1 < w2.heap.size := (by omega); have q1 : w2.cell? ⟨g1, k * 3 + 2, none⟩ = some (.string x.f2) := (hc2 _ _ (by first | omega | (simp <;> omega))).trans (by go_simp); have q2 : w2.frozen? ⟨g1, k * 3 + 2, none⟩ = false := (hf2 _ _ (by first | omega | (simp <;> omega))).trans (by go_simp)))
  go_wp2
  refine bodyPost_ret (v := .tuple #[.agg #[.int .i64 p, .slice (some ⟨g1, 0, none⟩) xs.length c1], .slice none 0 0, .int .i64 0]) (by simp [results, Try.results12, go_sem, *]) rfl (do_mk (by simp) rfl (Own.setCell (Own.setCell ?_ (fun k hk => by have := HB.out k hk; first | omega | (simp <;> omega)) _) (fun k hk => by have := HB.out k hk; first | omega | (simp <;> omega)) _) (rd_none _) (none_block _) (by repeat (first | exact Below.refl _ _ | with_reducible apply bel_drew | with_reducible apply bel_drewN | with_reducible apply bel_alloc | (with_reducible refine bel_set ?_ (by first | omega | (simp <;> omega)) _) | (with_reducible refine bel_step ?_ (by assumption)) | (with_reducible refine bel_step ?_ (grown_none (by assumption))))))
  exact own_body (own_still HO.out (by repeat (first | exact Below.refl _ _ | with_reducible apply bel_drew | with_reducible apply bel_drewN | with_reducible apply bel_alloc | (with_reducible refine bel_set ?_ (by first | omega | (simp <;> omega)) _) | (with_reducible refine bel_step ?_ (by assumption)) | (with_reducible refine bel_step ?_ (grown_none (by assumption)))))) HX.out _

end Go.Proofs.Ytkcijghflaoccaa.Nw
