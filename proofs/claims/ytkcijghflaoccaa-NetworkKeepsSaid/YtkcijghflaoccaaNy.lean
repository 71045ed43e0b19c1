/- NetworkForges: the walk. -/
import Derived.Test.YtkcijghflaoccaaNx
import Derived.LoopTactic
import Derived.Deep.RegionHeld3
import Derived.Outline
namespace Go.Proofs.Ytkcijghflaoccaa.Nw
open Go.RowKit Go.Proofs.Ytkcijghflaoccaa.Ow Go.Proofs.Ytkcijghflaoccaa.PNetworkAll Go.Proofs.YtkcijghflaoccaaW.PrintWords
set_option linter.unusedVariables false
set_option linter.unusedSimpArgs false

/-- The head of a list of the call's own that is not empty. -/
theorem own_head {w : World} {B : Nat} {A : Option Addr} {c : Nat} {xs : List S39} (h : Own dk 39 w B (.slice A xs.length c) xs) (hl : 1 ≤ xs.length) : ∃ g, A = some ⟨g, 0, none⟩ ∧ g < w.heap.size := by
  rcases h.form with ⟨_, h0⟩ | ⟨g, c', cur, hv, _, _, _, hlt, _⟩
  · rw [h0] at hl; simp at hl
  · simp only [Value.slice.injEq] at hv
    exact ⟨g, hv.1, hlt⟩
/-- The cells of an element. -/
theorem own_cells {w : World} {B g n c : Nat} {xs : List S39} (h : Own dk 39 w B (.slice (some ⟨g, 0, none⟩) n c) xs) {i : Nat} {x : S39} (hx : xs[i]? = some x) :
    w.cell? ⟨g, i * 3, none⟩ = some (.int .i64 x.f0) ∧ w.cell? ⟨g, i * 3 + 1, none⟩ = some (.int .i64 x.f1) ∧ w.cell? ⟨g, i * 3 + 2, none⟩ = some (.string x.f2) := by
  obtain ⟨g', o', e, _, hc⟩ := h.rd.at_ hx
  simp only [Option.some.injEq, Addr.mk.injEq] at e
  obtain ⟨rfl, rfl, _⟩ := e
  have h0 := hc 0 _ rfl
  have h1 := hc 1 _ rfl
  have h2 := hc 2 _ rfl
  rw [show dk.sz = 3 from rfl, Nat.zero_add] at h0 h1 h2
  exact ⟨h0, h1, h2⟩

set_option maxRecDepth 20000 in
set_option maxHeartbeats 1000000 in
theorem forges_long (A : Option Addr) (c : Nat) (l : List Int) (at_ part value : Int) (w : World) (hr : Kd.C (Kd.int .i64) w A l.length l) (hc : l.length ≤ c) (hl : ¬ l.length ≤ 500) :
    Calls Try.prog 6 #[.slice A l.length c, .int .i64 at_, .int .i64 part, .int .i64 value] w fun e w' => e = .returned (.bool true) ∧ Below w.heap.size w w' := by
  have hd : decide ((l.length : Int) ≤ 500) = false := decide_eq_false (by omega)
  have HR := Lib.hid hr
  clear hr
  go_enter Try.func6, Try.ntmps6
  go_wp2_with (first | (go_at_call 7; refine (light_any A c l _ (Kd.C_below HR.out (by repeat (first | exact Below.refl _ _ | with_reducible apply bel_drew | with_reducible apply bel_drewN | with_reducible apply bel_alloc | (with_reducible refine bel_set ?_ (by first | omega | (simp <;> omega)) _) | (with_reducible refine bel_step ?_ (by assumption)) | (with_reducible refine bel_step ?_ (grown_none (by assumption)))))) hc).mono ?_; rintro e w1 ⟨rfl, hb1⟩) | (go_at_call 8; refine (awake_any _).mono ?_; rintro e w2 ⟨rfl, hb2⟩))
  go_ret
  exact ⟨rfl, (by repeat (first | exact Below.refl _ _ | with_reducible apply bel_drew | with_reducible apply bel_drewN | with_reducible apply bel_alloc | (with_reducible refine bel_set ?_ (by first | omega | (simp <;> omega)) _) | (with_reducible refine bel_step ?_ (by assumption)) | (with_reducible refine bel_step ?_ (grown_none (by assumption)))))⟩

set_option maxRecDepth 20000 in
set_option maxHeartbeats 4000000 in
theorem forges_short (A : Option Addr) (c : Nat) (l : List Int) (at_ part value : Int) (w : World) (hr : Kd.C (Kd.int .i64) w A l.length l) (hc : l.length ≤ c) (hl : l.length ≤ 500) :
    Calls Try.prog 6 #[.slice A l.length c, .int .i64 at_, .int .i64 part, .int .i64 value] w fun e w' => e = .returned (.bool true) ∧ Below w.heap.size w w' := by
  have hd : decide ((l.length : Int) ≤ 500) = true := decide_eq_true (by omega)
  have HR := Lib.hid hr
  clear hr
  obtain ⟨i0, hi, hz0, hs0, hz2⟩ := info_parts info39
  go_enter Try.func6, Try.ntmps6
  have c1 := modv_bd at_ 50 (by omega)
  have c2' := modv_bd part 500 (by omega)
  have c3 := modv_bd value 256 (by omega)
  have M1 := Lib.hid (fun W => modk_eq at_ 50 W (by omega) (by omega))
  have M2 := Lib.hid (fun W => modk_eq part 500 W (by omega) (by omega))
  have M3 := Lib.hid (fun W => modk_eq value 256 W (by omega) (by omega))
  go_wp2_with (first | (go_at_call 7; refine (light_any A c l _ (Kd.C_below HR.out (by repeat (first | exact Below.refl _ _ | with_reducible apply bel_drew | with_reducible apply bel_drewN | with_reducible apply bel_alloc | (with_reducible refine bel_set ?_ (by first | omega | (simp <;> omega)) _) | (with_reducible refine bel_step ?_ (by assumption)) | (with_reducible refine bel_step ?_ (grown_none (by assumption)))))) hc).mono ?_; rintro e w1 ⟨rfl, hb1⟩) | (go_at_call 9; refine (roll_any A c l _ (Kd.C_below HR.out (by repeat (first | exact Below.refl _ _ | with_reducible apply bel_drew | with_reducible apply bel_drewN | with_reducible apply bel_alloc | (with_reducible refine bel_set ?_ (by first | omega | (simp <;> omega)) _) | (with_reducible refine bel_step ?_ (by assumption)) | (with_reducible refine bel_step ?_ (grown_none (by assumption)))))) hc hl).mono ?_; rintro e w2 ⟨g, rfl, hdi, hb2⟩) | fail)
  refine (packets_any g l 0 w1 w2 hdi).mono ?_
  rintro e w3 ⟨p, A1, cp, xs, j, rfl, ho, hdi3, hbut, hp1, hp3, hxl, hfit⟩
  have HW3 : Below w.heap.size w w3 := bel_step hb1 hdi3.2.2
  have HSH := Lib.hid hfit.short
  have HO := Lib.hid (ho.lower (B' := w.heap.size) (by have := hb1.size; have := hb2.size; omega))
  have HB := Lib.hid ho.block
  clear ho hdi hdi3 hbut hfit hb1 hb2
  generalize hh : (⟨5, modv at_ 50, modv part 500, modv value 256⟩ : S34) = h
  have hf0 : h.f0 = 5 := by rw [← hh]
  have DO := fun (W : World) (hr : Rd dk W (.slice A1 xs.length cp) xs) => do_any p A1 xs.length cp xs h W hr (by omega) HSH.out
  rw [← hh] at DO
  dsimp only at DO
  rw [hh] at DO
  have HD := Lib.hid DO
  have HH := Lib.hid hh
  have HF := Lib.hid hf0
  clear DO hh hf0
  by_cases h0 : xs.length = 0
  · have hq : ((xs.length : Int) == 0) = true := by rw [h0]; rfl
    have e1 := doR_empty h HF.out h0
    rw [e1] at HD
    have HQ := Lib.hid h0
    clear e1 h0
    go_wp2_with (first | (go_at_call 24; (with_reducible refine (M1.out _).mono ?_); rintro e w' ⟨rfl, rfl⟩) | (go_at_call 24; (with_reducible refine (M2.out _).mono ?_); rintro e w' ⟨rfl, rfl⟩) | (go_at_call 24; (with_reducible refine (M3.out _).mono ?_); rintro e w' ⟨rfl, rfl⟩) | fail)
    refine (HD.out _ (rd_step HO.out.rd (by repeat (first | exact Below.refl _ _ | with_reducible apply bel_drew | with_reducible apply bel_drewN | with_reducible apply bel_alloc | (with_reducible refine bel_set ?_ (by first | omega | (simp <;> omega)) _) | (with_reducible refine bel_step ?_ (by assumption)) | (with_reducible refine bel_step ?_ (grown_none (by assumption))))))).mono ?_
    rintro e w4 ⟨A2, c2, A3, c3', rfl, ho4, hr4, hb4, hbw4⟩
    have hz4 := hbw4.size
    simp at hz4
    obtain ⟨hc4, hf4⟩ := bcell hbw4
    have k0 : w4.cell? ⟨w3.heap.size, 0, none⟩ = some (.int .i64 p) := (hc4 _ _ (by first | omega | (simp <;> omega))).trans (by go_simp)
    have kf0 : w4.frozen? ⟨w3.heap.size, 0, none⟩ = false := (hf4 _ _ (by first | omega | (simp <;> omega))).trans (by go_simp)
    have k1 : w4.cell? ⟨w3.heap.size, 1, none⟩ = some (.slice A1 xs.length cp) := (hc4 _ _ (by first | omega | (simp <;> omega))).trans (by go_simp)
    have kf1 : w4.frozen? ⟨w3.heap.size, 1, none⟩ = false := (hf4 _ _ (by first | omega | (simp <;> omega))).trans (by go_simp)
    clear hc4 hf4
    have lt0 : w3.heap.size < w4.heap.size := by omega
    go_wp2_with (go_at_call 8; refine (awake_any _).mono ?_; rintro e w5 ⟨rfl, hb5⟩)
    go_ret
    exact ⟨rfl, (by repeat (first | exact HW3 | exact Below.refl _ _ | with_reducible apply bel_drew | with_reducible apply bel_drewN | with_reducible apply bel_alloc | (with_reducible refine bel_set ?_ (by first | omega | (simp <;> omega)) _) | (with_reducible refine bel_step ?_ (by assumption)) | (with_reducible refine bel_step ?_ (grown_none (by assumption)))))⟩
  · have hlen : 1 ≤ xs.length := by omega
    have hq : ((xs.length : Int) == 0) = false := beq_eq_false_iff_ne.2 (by omega)
    have e1 := doR_forge h HF.out h0
    obtain ⟨f1, f2, f3⟩ := spot_at (h := h) h0
    generalize spot xs h = k at e1 f1 f2 f3
    generalize xs.getD k z39 = x at e1 f3
    rw [e1] at HD
    have hk2 : modv at_ 50 % (xs.length : Int) = (k : Int) := by
      rw [← modv_small c1.1 (by omega), ← f1, ← HH.out]
    have HK := Lib.hid f1
    have HX := Lib.hid f3
    have ls : (xs.set k (forged x h)).length = xs.length := List.length_set
    have HLS := Lib.hid ls
    clear e1 h0 f1 f3 ls
    obtain ⟨g1, rfl, hg1⟩ := own_head HO.out hlen
    go_wp2_with (first | (go_at_call 24; (with_reducible refine (M1.out _).mono ?_); rintro e w' ⟨rfl, rfl⟩) | (go_at_call 24; (with_reducible refine (M2.out _).mono ?_); rintro e w' ⟨rfl, rfl⟩) | (go_at_call 24; (with_reducible refine (M3.out _).mono ?_); rintro e w' ⟨rfl, rfl⟩) | fail)
    refine (HD.out _ (rd_step HO.out.rd (by repeat (first | exact Below.refl _ _ | with_reducible apply bel_drew | with_reducible apply bel_drewN | with_reducible apply bel_alloc | (with_reducible refine bel_set ?_ (by first | omega | (simp <;> omega)) _) | (with_reducible refine bel_step ?_ (by assumption)) | (with_reducible refine bel_step ?_ (grown_none (by assumption))))))).mono ?_
    rintro e w4 ⟨A2, c2, A3, c3', rfl, ho4, hr4, hb4, hbw4⟩
    dsimp only at ho4 hr4 hb4 ⊢
    rw [HLS.out] at ho4
    rw [HLS.out]
    have hz4 := hbw4.size
    simp at hz4
    obtain ⟨hc4, hf4⟩ := bcell hbw4
    have k0 : w4.cell? ⟨w3.heap.size, 0, none⟩ = some (.int .i64 p) := (hc4 _ _ (by first | omega | (simp <;> omega))).trans (by go_simp)
    have kf0 : w4.frozen? ⟨w3.heap.size, 0, none⟩ = false := (hf4 _ _ (by first | omega | (simp <;> omega))).trans (by go_simp)
    have k1 : w4.cell? ⟨w3.heap.size, 1, none⟩ = some (.slice (some ⟨g1, 0, none⟩) xs.length cp) := (hc4 _ _ (by first | omega | (simp <;> omega))).trans (by go_simp)
    have kf1 : w4.frozen? ⟨w3.heap.size, 1, none⟩ = false := (hf4 _ _ (by first | omega | (simp <;> omega))).trans (by go_simp)
    have k2 : w4.cell? ⟨w3.heap.size + 1, 0, none⟩ = some (.int .i64 5) := (hc4 _ _ (by first | omega | (simp <;> omega))).trans (by go_simp)
    have kf2 : w4.frozen? ⟨w3.heap.size + 1, 0, none⟩ = false := (hf4 _ _ (by first | omega | (simp <;> omega))).trans (by go_simp)
    have k3 : w4.cell? ⟨w3.heap.size + 1, 1, none⟩ = some (.int .i64 (modv at_ 50)) := (hc4 _ _ (by first | omega | (simp <;> omega))).trans (by go_simp)
    have kf3 : w4.frozen? ⟨w3.heap.size + 1, 1, none⟩ = false := (hf4 _ _ (by first | omega | (simp <;> omega))).trans (by go_simp)
    have k4 : w4.cell? ⟨w3.heap.size + 1, 2, none⟩ = some (.int .i64 (modv part 500)) := (hc4 _ _ (by first | omega | (simp <;> omega))).trans (by go_simp)
    have kf4 : w4.frozen? ⟨w3.heap.size + 1, 2, none⟩ = false := (hf4 _ _ (by first | omega | (simp <;> omega))).trans (by go_simp)
    have k5 : w4.cell? ⟨w3.heap.size + 1, 3, none⟩ = some (.int .i64 (modv value 256)) := (hc4 _ _ (by first | omega | (simp <;> omega))).trans (by go_simp)
    have kf5 : w4.frozen? ⟨w3.heap.size + 1, 3, none⟩ = false := (hf4 _ _ (by first | omega | (simp <;> omega))).trans (by go_simp)
    clear hc4 hf4
    have lt0 : w3.heap.size < w4.heap.size := (by omega)
    have lt1 : w3.heap.size < w4.heap.size + 1 := (by omega)
    have lt2 : w3.heap.size < w4.heap.size + 1 + 1 := (by omega)
    have lt3 : w3.heap.size < w4.heap.size + 1 + 1 + 1 := (by omega)
    have lt4 : w3.heap.size + 1 < w4.heap.size := (by omega)
    have lt5 : w3.heap.size + 1 < w4.heap.size + 1 := (by omega)
    have lt6 : w3.heap.size + 1 < w4.heap.size + 1 + 1 := (by omega)
    have lt7 : w3.heap.size + 1 < w4.heap.size + 1 + 1 + 1 := (by omega)
    have HO4 := Lib.hid (show Own dk 39 w4 w.heap.size (.slice A2 xs.length c2) (xs.set k (forged x h)) from Own.lower (by rw [← HLS.out] at ho4 ⊢; exact ho4) (by have := HW3.size; simp <;> omega))
    have HB4 := Lib.hid (show ∀ k', (Value.slice A2 xs.length c2).ownBlock = some k' → w3.heap.size + 2 ≤ k' ∧ k' < w4.heap.size from fun k' hk' => by have := World.ownsRow.lt ho4 k' hk'; simp at this; omega)
    clear ho4 hr4 hb4
    obtain ⟨g2, rfl, hg2⟩ := own_head (xs := xs.set k (forged x h)) (by rw [HLS.out]; exact HO4.out) (by rw [HLS.out]; exact hlen)
    go_wp2_with fail
    rw [hk2]
    have HW5 : Below w.heap.size w (w4.alloc (.cells #[.int .i64 p, .slice (some ⟨g2, 0, none⟩) xs.length c2] 29)) := (by repeat (first | exact HW3 | exact Below.refl _ _ | with_reducible apply bel_drew | with_reducible apply bel_drewN | with_reducible apply bel_alloc | (with_reducible refine bel_set ?_ (by first | omega | (simp <;> omega)) _) | (with_reducible refine bel_step ?_ (by assumption)) | (with_reducible refine bel_step ?_ (grown_none (by assumption)))))
    have HO5 := Lib.hid (show Own dk 39 (w4.alloc (.cells #[.int .i64 p, .slice (some ⟨g2, 0, none⟩) xs.length c2] 29)) w.heap.size (.slice (some ⟨g1, 0, none⟩) xs.length cp) xs from own_still HO.out (by repeat (first | exact Below.refl _ _ | with_reducible apply bel_drew | with_reducible apply bel_drewN | with_reducible apply bel_alloc | (with_reducible refine bel_set ?_ (by first | omega | (simp <;> omega)) _) | (with_reducible refine bel_step ?_ (by assumption)) | (with_reducible refine bel_step ?_ (grown_none (by assumption))))))
    have HO6 := Lib.hid (Ow.own_alloc HO4.out (.cells #[.int .i64 p, .slice (some ⟨g2, 0, none⟩) xs.length c2] 29))
    have v0 : (w4.alloc (.cells #[.int .i64 p, .slice (some ⟨g2, 0, none⟩) xs.length c2] 29)).cell? ⟨w3.heap.size, 0, none⟩ = some (.int .i64 p) := by go_simp
    have v1 : (w4.alloc (.cells #[.int .i64 p, .slice (some ⟨g2, 0, none⟩) xs.length c2] 29)).cell? ⟨w3.heap.size, 1, none⟩ = some (.slice (some ⟨g1, 0, none⟩) xs.length cp) := by go_simp
    have v2 : (w4.alloc (.cells #[.int .i64 p, .slice (some ⟨g2, 0, none⟩) xs.length c2] 29)).cell? ⟨w3.heap.size + 1, 0, none⟩ = some (.int .i64 5) := by go_simp
    have v3 : (w4.alloc (.cells #[.int .i64 p, .slice (some ⟨g2, 0, none⟩) xs.length c2] 29)).cell? ⟨w3.heap.size + 1, 1, none⟩ = some (.int .i64 (modv at_ 50)) := by go_simp
    have v4 : (w4.alloc (.cells #[.int .i64 p, .slice (some ⟨g2, 0, none⟩) xs.length c2] 29)).cell? ⟨w3.heap.size + 1, 2, none⟩ = some (.int .i64 (modv part 500)) := by go_simp
    have v5 : (w4.alloc (.cells #[.int .i64 p, .slice (some ⟨g2, 0, none⟩) xs.length c2] 29)).cell? ⟨w3.heap.size + 1, 3, none⟩ = some (.int .i64 (modv value 256)) := by go_simp
    have v6 : (w4.alloc (.cells #[.int .i64 p, .slice (some ⟨g2, 0, none⟩) xs.length c2] 29)).frozen? ⟨w3.heap.size + 1, 3, none⟩ = false := by go_simp
    have v7 : (w4.alloc (.cells #[.int .i64 p, .slice (some ⟨g2, 0, none⟩) xs.length c2] 29)).cell? ⟨w4.heap.size, 0, none⟩ = some (.int .i64 p) := by go_simp
    have v8 : (w4.alloc (.cells #[.int .i64 p, .slice (some ⟨g2, 0, none⟩) xs.length c2] 29)).cell? ⟨w4.heap.size, 1, none⟩ = some (.slice (some ⟨g2, 0, none⟩) xs.length c2) := by go_simp
    have sz5 : (w4.alloc (.cells #[.int .i64 p, .slice (some ⟨g2, 0, none⟩) xs.length c2] 29)).heap.size = w4.heap.size + 1 := by simp
    generalize (w4.alloc (.cells #[.int .i64 p, .slice (some ⟨g2, 0, none⟩) xs.length c2] 29)) = W5 at *
    have HSZ := Lib.hid sz5
    have s1 : w3.heap.size + 1 < W5.heap.size := by omega
    have s2 : w4.heap.size < W5.heap.size := by omega
    have s3 : g1 < W5.heap.size := by omega
    have s4 : g2 < W5.heap.size := by omega
    have s5 : w3.heap.size < W5.heap.size := by omega
    clear sz5 k0 kf0 k1 kf1 k2 kf2 k3 kf3 k4 kf4 k5 kf5 lt0 lt1 lt2 lt3 lt4 lt5 lt6 lt7 hbw4
    go_loopw [78] (fun i wr => ∃ n : Nat, n ≤ xs.length ∧ i = .int .i64 n ∧ Below W5.heap.size W5 wr) (fun i _ => xs.length - (intOf i).toNat)
    case atStart => exact ⟨0, by omega, rfl, Below.refl _ _⟩
    case round =>
      obtain ⟨n, hn, rfl, hbr⟩ := hrel
      obtain ⟨hcr, hfr⟩ := bcell hbr
      have u0 := (hcr _ 0 s5).trans v0
      have u1 := (hcr _ 1 s5).trans v1
      have u2 := (hcr _ 0 s1).trans v2
      have u3 := (hcr _ 1 s1).trans v3
      have u4 := (hcr _ 2 s1).trans v4
      have u5 := (hcr _ 3 s1).trans v5
      have u6 := (hfr _ 3 s1).trans v6
      have u7 := (hcr _ 0 s2).trans v7
      have u8 := (hcr _ 1 s2).trans v8
      have hzr := hbr.size
      have HOR := Lib.hid (own_still HO5.out hbr)
      have HOS := Lib.hid (own_still HO6.out hbr)
      clear hcr hfr v0 v1 v2 v3 v4 v5 v6 v7 v8
      have r1 : w3.heap.size + 1 < wr.heap.size := by omega
      have r2 : w4.heap.size < wr.heap.size := by omega
      have r3 : g1 < wr.heap.size := by omega
      have r4 : g2 < wr.heap.size := by omega
      have r5 : w3.heap.size < wr.heap.size := by omega
      have r6 : w3.heap.size + 1 < wr.heap.size + 1 := by omega
      have r7 : w4.heap.size < wr.heap.size + 1 := by omega
      have r8 : g1 < wr.heap.size + 1 := by omega
      have r9 : g2 < wr.heap.size + 1 := by omega
      have r10 : w3.heap.size < wr.heap.size + 1 := by omega
      by_cases hlt : n < xs.length
      · obtain ⟨xi, hxi⟩ : ∃ xi, xs[n]? = some xi := ⟨_, List.getElem?_eq_getElem hlt⟩
        obtain ⟨t0, t1, t2⟩ := own_cells HOR.out hxi
        by_cases hnk : n = k
        · subst hnk
          obtain rfl : x = xi := by have := HX.out.symm.trans hxi; exact Option.some.inj this
          obtain ⟨q0, q1, q2⟩ := own_cells HOS.out (List.getElem?_set_self hlt)
          have fz : (forged x h).f2.size = x.f2.size := forge_size _ _ _
          generalize forged x h = y at q0 q1 q2 fz
          clear hxi
          go_wp2
          go_roundw
          case rel => exact ⟨n + 1, by omega, by go_num, (by repeat (first | exact hbr | exact Below.refl _ _ | with_reducible apply bel_drew | with_reducible apply bel_drewN | with_reducible apply bel_alloc | (with_reducible refine bel_set ?_ (by first | omega | (simp <;> omega)) _) | (with_reducible refine bel_step ?_ (by assumption)) | (with_reducible refine bel_step ?_ (grown_none (by assumption)))))⟩
          case measure => simp [intOf]; omega
        · obtain ⟨q0, q1, q2⟩ := own_cells HOS.out (show (xs.set k (forged x h))[n]? = some xi by rw [List.getElem?_set_ne (by omega)]; exact hxi)
          have hk3 : ((n : Int) == (k : Int)) = false := beq_eq_false_iff_ne.2 (by omega)
          have hk4 : ((n : Int) != (k : Int)) = true := by rw [bne_iff_ne]; omega
          clear hxi
          go_wp2
          go_roundw
          case rel => exact ⟨n + 1, by omega, by go_num, (by repeat (first | exact hbr | exact Below.refl _ _ | with_reducible apply bel_drew | with_reducible apply bel_drewN | with_reducible apply bel_alloc | (with_reducible refine bel_set ?_ (by first | omega | (simp <;> omega)) _) | (with_reducible refine bel_step ?_ (by assumption)) | (with_reducible refine bel_step ?_ (grown_none (by assumption)))))⟩
          case measure => simp [intOf]; omega
      · obtain rfl : n = xs.length := by omega
        obtain ⟨t0, t1, t2⟩ := own_cells HOR.out HX.out
        obtain ⟨q0, q1, q2⟩ := own_cells HOS.out (List.getElem?_set_self (a := forged x h) f2)
        have hWR : Below w.heap.size w wr := bel_step HW5 hbr
        by_cases hb0 : x.f2.size = 0
        · have eb : x.f2.toList = [] := by
            rw [ByteArray.toList_eq]
            apply List.eq_nil_of_length_eq_zero; simpa using hb0
          have exx : xs.set k (forged x h) = xs := by
            rw [show forged x h = x from by unfold forged; rw [forge_none hb0]]
            exact set_self HX.out
          clear q0 q1 q2
          rw [exx] at HOS
          have hss := sameN_self p xs (by omega)
          have HSS := Lib.hid hss
          clear hss exx hb0 HLS HO6 HO4
          go_wp2_with (first | (go_at_call 17; refine (same_any p p _ _ _ _ _ _ xs xs _ (rd_step HOS.out.rd (by repeat (first | exact Below.refl _ _ | with_reducible apply bel_drew | with_reducible apply bel_drewN | with_reducible apply bel_alloc | (with_reducible refine bel_set ?_ (by first | omega | (simp <;> omega)) _) | (with_reducible refine bel_step ?_ (by assumption)) | (with_reducible refine bel_step ?_ (grown_none (by assumption)))))) (rd_step HOR.out.rd (by repeat (first | exact Below.refl _ _ | with_reducible apply bel_drew | with_reducible apply bel_drewN | with_reducible apply bel_alloc | (with_reducible refine bel_set ?_ (by first | omega | (simp <;> omega)) _) | (with_reducible refine bel_step ?_ (by assumption)) | (with_reducible refine bel_step ?_ (grown_none (by assumption)))))) (by omega)).mono ?_; rintro e w6 ⟨rfl, hb6⟩; rw [HSS.out]) | (go_at_call 8; refine (awake_any _).mono ?_; rintro e w7 ⟨rfl, hb7⟩))
          go_ret
          exact ⟨rfl, (by repeat (first | exact hWR | exact Below.refl _ _ | with_reducible apply bel_drew | with_reducible apply bel_drewN | with_reducible apply bel_alloc | (with_reducible refine bel_set ?_ (by first | omega | (simp <;> omega)) _) | (with_reducible refine bel_step ?_ (by assumption)) | (with_reducible refine bel_step ?_ (grown_none (by assumption)))))⟩
        · have eb : x.f2.toList.isEmpty = false := by
            rw [ByteArray.toList_eq]
            cases hh : x.f2.data.toList with
            | nil => exfalso; apply hb0; have := congrArg List.length hh; simpa using this
            | cons => rfl
          have hb1 : 1 ≤ x.f2.size := by omega
          obtain ⟨b, hbm⟩ := Int.eq_ofNat_of_zero_le (Int.emod_nonneg (modv part 500) (show (x.f2.size : Int) ≠ 0 by omega))
          have hbl := Int.emod_lt_of_pos (modv part 500) (show (0 : Int) < (x.f2.size : Int) by omega)
          rw [hbm] at hbl
          have hb2 : b < x.f2.size := by omega
          clear hbl
          have hbk : modv h.f2 x.f2.size = (b : Int) := by
            rw [← HH.out]
            show modv (modv part 500) _ = _
            rw [modv_small c2'.1 (by omega), hbm]
          have hwb := wrap_byte x.f2 b hb2
          have HT := forge_twice HX.out h ⟨5, modv at_ 50, modv part 500, ((byteAt x.f2 b).toNat : Int)⟩ HK.out (by omega) hbk rfl (by rw [← HH.out]) (by rw [← HH.out]) rfl
          have hfa : ((byteAt (forged x h).f2 b).toNat : Int) = modv value 256 := by
            have := forge_at x.f2 h.f2 h.f3 (by omega)
            rw [hbk] at this
            simp only [Int.toNat_natCast] at this
            rw [← HH.out] at this
            rw [modv_small c3.1 (by omega)] at this
            rw [← HH.out]
            show ((byteAt (forge x.f2 (modv part 500) (modv value 256)) b).toNat : Int) = _
            rw [this]
            omega
          have hfs : (forged x h).f2.size = x.f2.size := forge_size _ _ _
          have hwf := wrap_byte (forged x h).f2 b (by rw [hfs]; exact hb2)
          rw [hfa] at hwf
          have hwf2 : ((forged x h).f2[b]'(by rw [hfs]; exact hb2)).toNat = (modv value 256).toNat := by rw [← byteAt_get _ _ (by rw [hfs]; exact hb2), ← hfa]; simp
          have hwf3 : (((forged x h).f2[b]'(by rw [hfs]; exact hb2)).toNat : Int) = modv value 256 := by rw [← byteAt_get _ _ (by rw [hfs]; exact hb2), hfa]
          clear hwf2
          have hwf4 : IntKind.i64.wrap (((forged x h).f2[b]'(by rw [hfs]; exact hb2)).toNat : Int) = modv value 256 := (iwrap_byte _ _ (by rw [hfs]; exact hb2)).trans hfa
          have hwf5 : IntKind.i64.wrap (modv value 256) = modv value 256 := iwrap_small c3.1 (Int.le_trans (Int.le_of_lt c3.2) (by decide))
          have shy : Short (xs.set k (forged x h)) := fun z hz => by
            rcases List.mem_or_eq_of_mem_set hz with hz | hz
            · exact HSH.out z hz
            · rw [hz, hfs]; exact HSH.out x (List.mem_of_getElem? HX.out)
          have DO2 := fun (W : World) (hr : Rd dk W (.slice (some ⟨g2, 0, none⟩) xs.length c2) (xs.set k (forged x h))) => do_any p (some ⟨g2, 0, none⟩) xs.length c2 (xs.set k (forged x h)) ⟨5, modv at_ 50, modv part 500, ((byteAt x.f2 b).toNat : Int)⟩ W hr (by rw [HLS.out]; omega) shy
          rw [HT] at DO2
          dsimp only at DO2
          have HD2 := Lib.hid DO2
          have HWB := Lib.hid hwb
          have hss := sameN_self p xs (by omega)
          have HSS := Lib.hid hss
          clear HT DO2 hwb hfa shy hss hbk
          generalize forged x h = y at *
          go_wp2_with fail
          rw [HWB.out]
          clear HWB
          generalize ((byteAt x.f2 b).toNat : Int) = vb at *
          refine (HD2.out _ (Own.rd (e := 39) (B := w.heap.size) (by (repeat (first | (with_reducible refine Own.setCell ?_ (fun k hk => by have := HB4.out k hk; simp <;> omega) _) | (with_reducible refine Ow.own_alloc ?_ _) | (with_reducible refine own_drew ?_) | (with_reducible refine own_drewN ?_ _))); exact HOS.out))).mono ?_
          rintro e w6 ⟨A5, c5, A6, c6, rfl, ho6, hr6, hb6, hbw6⟩
          have hgb := (HB4.out g2 rfl).1
          have hgn : ¬ g2 = w3.heap.size + 1 := by omega
          have hgn2 : ¬ w3.heap.size + 1 = g2 := by omega
          have hgn3 : ¬ w4.heap.size = w3.heap.size + 1 := by omega
          have hgn4 : ¬ w3.heap.size + 1 = w4.heap.size := by omega
          dsimp only at ho6 hr6 hb6
          have hz6 := hbw6.size
          simp at hz6
          obtain ⟨hc6, hf6⟩ := bcell hbw6
          have y0 : w6.cell? ⟨w3.heap.size, 0, none⟩ = some (.int .i64 p) := (hc6 _ _ (by simp <;> omega)).trans (by go_simp)
          have y1 : w6.cell? ⟨w3.heap.size, 1, none⟩ = some (.slice (some ⟨g1, 0, none⟩) xs.length cp) := (hc6 _ _ (by simp <;> omega)).trans (by go_simp)
          have y2 : w6.cell? ⟨w4.heap.size, 1, none⟩ = some (.slice (some ⟨g2, 0, none⟩) xs.length c2) := (hc6 _ _ (by simp <;> omega)).trans (by go_simp)
          have y3 : w6.cell? ⟨g2, k * 3 + 2, none⟩ = some (.string y.f2) := (hc6 _ _ (by simp <;> omega)).trans (by go_simp)
          have z1 : w3.heap.size < w6.heap.size := by omega
          have z2 : w4.heap.size < w6.heap.size := by omega
          have z3 : g2 < w6.heap.size := by omega
          have HWS : Below w.heap.size w (wr.setCell ⟨w3.heap.size + 1, 3, none⟩ (.int .i64 vb)) := by
            refine bel_set hWR ?_ _
            have := HW3.size
            show w.heap.size ≤ w3.heap.size + 1
            omega
          have HY1 := Lib.hid (Own.rd (own_still (show Own dk 39 (wr.setCell ⟨w3.heap.size + 1, 3, none⟩ (.int .i64 vb)) w.heap.size (.slice (some ⟨g1, 0, none⟩) xs.length cp) xs from Own.setCell HOR.out (fun k' hk' => by have := HB.out k' hk'; simp <;> omega) _) hbw6))
          have HY2 := Lib.hid ho6.rd
          have HW6 := bel_step HWS hbw6
          have cb : b < y.f2.size := by omega
          clear hc6 hf6 ho6 hr6 hb6 hbw6 HWS t0 t1 t2 q0 q1 q2
          go_wp2_with fail
          go_region_held3 (fun w' => w'.cell? ⟨w6.heap.size, 0, none⟩ = some (.int .i64 p) ∧ w'.cell? ⟨w6.heap.size, 1, none⟩ = some (.slice A5 xs.length c5) ∧ w'.cell? ⟨w3.heap.size, 0, none⟩ = some (.int .i64 p) ∧ w'.cell? ⟨w3.heap.size, 1, none⟩ = some (.slice (some ⟨g1, 0, none⟩) xs.length cp) ∧ w'.cell? ⟨w4.heap.size, 1, none⟩ = some (.slice (some ⟨g2, 0, none⟩) xs.length c2) ∧ w'.cell? ⟨g2, k * 3 + 2, none⟩ = some (.string y.f2)) (first | exact ⟨o0, o1, o2, o3, o4, o5⟩ | exact ⟨n0, n1, n2, n3, n4, n5⟩ | (refine ⟨?_, ?_, ?_, ?_, ?_, ?_⟩ <;> go_simp))
            (first | (go_at_call 17; refine (same_any p p _ _ _ _ _ _ xs xs _ (rd_step HY2.out (by repeat (first | exact Below.refl _ _ | with_reducible apply bel_drew | with_reducible apply bel_drewN | with_reducible apply bel_alloc | (with_reducible refine bel_set ?_ (by first | omega | (simp <;> omega)) _) | (with_reducible refine bel_step ?_ (by assumption)) | (with_reducible refine bel_step ?_ (grown_none (by assumption)))))) (rd_step HY1.out (by repeat (first | exact Below.refl _ _ | with_reducible apply bel_drew | with_reducible apply bel_drewN | with_reducible apply bel_alloc | (with_reducible refine bel_set ?_ (by first | omega | (simp <;> omega)) _) | (with_reducible refine bel_step ?_ (by assumption)) | (with_reducible refine bel_step ?_ (grown_none (by assumption)))))) (by omega)).mono ?_; rintro e w7 ⟨rfl, hb7⟩; rw [HSS.out]; obtain ⟨hc7, hf7⟩ := bcell hb7; have hz7 := hb7.size; simp at hz7; have n0 : w7.cell? ⟨w6.heap.size, 0, none⟩ = some (.int .i64 p) := (hc7 _ _ (by simp <;> omega)).trans (by go_simp); have n1 : w7.cell? ⟨w6.heap.size, 1, none⟩ = some (.slice A5 xs.length c5) := (hc7 _ _ (by simp <;> omega)).trans (by go_simp); have n2 : w7.cell? ⟨w3.heap.size, 0, none⟩ = some (.int .i64 p) := (hc7 _ _ (by simp <;> omega)).trans (by go_simp); have n3 : w7.cell? ⟨w3.heap.size, 1, none⟩ = some (.slice (some ⟨g1, 0, none⟩) xs.length cp) := (hc7 _ _ (by simp <;> omega)).trans (by go_simp); have n4 : w7.cell? ⟨w4.heap.size, 1, none⟩ = some (.slice (some ⟨g2, 0, none⟩) xs.length c2) := (hc7 _ _ (by simp <;> omega)).trans (by go_simp); have n5 : w7.cell? ⟨g2, k * 3 + 2, none⟩ = some (.string y.f2) := (hc7 _ _ (by simp <;> omega)).trans (by go_simp); clear hc7 hf7) | (go_at_call 24; (with_reducible refine (M3.out _).mono ?_); rintro e w' ⟨rfl, rfl⟩) | (go_at_call 8; refine (awake_any _).mono ?_; rintro e w8 ⟨rfl, hb8⟩; obtain ⟨hc8, hf8⟩ := bcell hb8; have o0 : w8.cell? ⟨w6.heap.size, 0, none⟩ = some (.int .i64 p) := (hc8 _ _ (by omega)).trans n0; have o1 : w8.cell? ⟨w6.heap.size, 1, none⟩ = some (.slice A5 xs.length c5) := (hc8 _ _ (by omega)).trans n1; have o2 : w8.cell? ⟨w3.heap.size, 0, none⟩ = some (.int .i64 p) := (hc8 _ _ (by omega)).trans n2; have o3 : w8.cell? ⟨w3.heap.size, 1, none⟩ = some (.slice (some ⟨g1, 0, none⟩) xs.length cp) := (hc8 _ _ (by omega)).trans n3; have o4 : w8.cell? ⟨w4.heap.size, 1, none⟩ = some (.slice (some ⟨g2, 0, none⟩) xs.length c2) := (hc8 _ _ (by omega)).trans n4; have o5 : w8.cell? ⟨g2, k * 3 + 2, none⟩ = some (.string y.f2) := (hc8 _ _ (by omega)).trans n5; clear hc8 hf8))
          all_goals
            go_wp2
            go_ret
            exact ⟨rfl, (by repeat (first | exact HW6 | exact Below.refl _ _ | with_reducible apply bel_drew | with_reducible apply bel_drewN | with_reducible apply bel_alloc | (with_reducible refine bel_set ?_ (by first | omega | (simp <;> omega)) _) | (with_reducible refine bel_step ?_ (by assumption)) | (with_reducible refine bel_step ?_ (grown_none (by assumption)))))⟩
end Go.Proofs.Ytkcijghflaoccaa.Nw
