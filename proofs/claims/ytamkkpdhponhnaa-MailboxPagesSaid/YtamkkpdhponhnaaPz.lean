/- MailboxPages: the walk. -/
import Derived.Test.YtamkkpdhponhnaaPy
import Derived.LoopTactic
import Derived.Outline
import Derived.Deep.RegionLaw
import Derived.LoopTactic
namespace Go.Proofs.Ytamkkpdhponhnaa.Nw
open Go.RowKit Go.Proofs.Ytamkkpdhponhnaa.Ow Go.Proofs.Ytamkkpdhponhnaa.PMailboxAll Go.Proofs.YtamkkpdhponhnaaW.PrintWords
set_option linter.unusedVariables false
set_option linter.unusedSimpArgs false

theorem FetchIs.openN {w w' : World} {e : Ending} {r : List S41 × Int} (h : FetchIs w e w' r) {L : List S41} {er : Int} {N : Nat} (hr : r = (L, er)) (hN : L.length = N) :
    ∃ A c, e = .returned (.tuple #[.slice A N c, .int .i64 er]) ∧ Own dl 41 w' w.heap.size (.slice A N c) L ∧ Below w.heap.size w w' := by subst hr; subst hN; exact h
theorem own_num {w : World} {B : Nat} {A : Option Addr} {n c : Nat} {xs : List S41} {x : S41} {k : Nat} (ho : Own dl 41 w B (.slice A n c) xs) (hx : xs[k]? = some x) :
    ∃ g, A = some ⟨g, 0, none⟩ ∧ B ≤ g ∧ g < w.heap.size ∧ w.cell? ⟨g, k * 3 + 1, none⟩ = some (.int .i64 x.f1) := by
  have hk := (List.getElem?_eq_some_iff.1 hx).1
  rcases ho.form with ⟨h, h0⟩ | ⟨g1, c1', cur, hv, _, _, hB, hlt, hh, hs, ht⟩
  · subst h0; simp at hk
  · simp only [Value.slice.injEq] at hv
    obtain ⟨rfl, _, rfl⟩ := hv
    obtain ⟨g2, o2, e2, _, hc3⟩ := ho.rd.at_ hx
    simp only [Option.some.injEq, Addr.mk.injEq] at e2
    obtain ⟨rfl, rfl, _⟩ := e2
    have h3 := hc3 1 _ rfl
    refine ⟨g1, rfl, hB, hlt, ?_⟩
    rw [show 0 + k * dl.sz + 1 = k * 3 + 1 by show 0 + k * 3 + 1 = _; omega] at h3
    exact h3
set_option maxRecDepth 100000 in
theorem pages_long (A : Option Addr) (c : Nat) (l : List Int) (most : Int) (w : World) (hr : Kd.C (Kd.int .i64) w A l.length l) (hc : l.length ≤ c) (hl : ¬ l.length ≤ 500) :
    Calls Try.prog 4 #[.slice A l.length c, .int .u8 most] w fun e w' => e = .returned (.bool true) ∧ Below w.heap.size w w' := by
  have hd : decide ((l.length : Int) ≤ 500) = false := decide_eq_false (by omega)
  have HR := Lib.hid hr
  clear hr
  go_enter Try.func4, Try.ntmps4
  go_wp2_with (first | (go_at_call 7; refine (light_any A c l _ (Kd.C_below HR.out (by repeat (first | exact Below.refl _ _ | with_reducible apply bel_drew | with_reducible apply bel_drewN | with_reducible apply bel_alloc | (with_reducible refine bel_set ?_ (by first | omega | (simp <;> omega)) _) | (with_reducible refine bel_step ?_ (by assumption)) | (with_reducible refine bel_step ?_ (grown_none (by assumption)))))) hc).mono ?_; rintro e w1 ⟨rfl, hb1⟩) | (go_at_call 8; refine (awake_any _).mono ?_; rintro e w2 ⟨rfl, hb2⟩))
  go_ret
  exact ⟨rfl, (by repeat (first | exact Below.refl _ _ | with_reducible apply bel_drew | with_reducible apply bel_drewN | with_reducible apply bel_alloc | (with_reducible refine bel_set ?_ (by first | omega | (simp <;> omega)) _) | (with_reducible refine bel_step ?_ (by assumption)) | (with_reducible refine bel_step ?_ (grown_none (by assumption)))))⟩
set_option maxRecDepth 100000 in
set_option maxHeartbeats 16000000 in
theorem pages_short (A : Option Addr) (c : Nat) (l : List Int) (most : Int) (w : World) (hr : Kd.C (Kd.int .i64) w A l.length l) (hc : l.length ≤ c) (hl : l.length ≤ 500) (hm0 : 0 ≤ most) (hm1 : most ≤ 255) :
    Calls Try.prog 4 #[.slice A l.length c, .int .u8 most] w fun e w' => e = .returned (.bool true) ∧ Below w.heap.size w w' := by
  have hd : decide ((l.length : Int) ≤ 500) = true := decide_eq_true (by omega)
  have HR := Lib.hid hr
  clear hr
  go_enter Try.func4, Try.ntmps4
  go_wp2_with (first | (go_at_call 7; refine (light_any A c l _ (Kd.C_below HR.out (by repeat (first | exact Below.refl _ _ | with_reducible apply bel_drew | with_reducible apply bel_drewN | with_reducible apply bel_alloc | (with_reducible refine bel_set ?_ (by first | omega | (simp <;> omega)) _) | (with_reducible refine bel_step ?_ (by assumption)) | (with_reducible refine bel_step ?_ (grown_none (by assumption)))))) hc).mono ?_; rintro e w1 ⟨rfl, hb1⟩) | (go_at_call 9; refine (roll_any A c l _ (Kd.C_below HR.out (by repeat (first | exact Below.refl _ _ | with_reducible apply bel_drew | with_reducible apply bel_drewN | with_reducible apply bel_alloc | (with_reducible refine bel_set ?_ (by first | omega | (simp <;> omega)) _) | (with_reducible refine bel_step ?_ (by assumption)) | (with_reducible refine bel_step ?_ (grown_none (by assumption)))))) hc hl).mono ?_; rintro e w2 ⟨g, rfl, hdi, hb2⟩) | fail)
  have HBW1 : Below w.heap.size w w1 := bel_step (by repeat (first | exact Below.refl _ _ | with_reducible apply bel_drew | with_reducible apply bel_drewN | with_reducible apply bel_alloc | (with_reducible refine bel_set ?_ (by first | omega | (simp <;> omega)) _) | (with_reducible refine bel_step ?_ (by assumption)) | (with_reducible refine bel_step ?_ (grown_none (by assumption))))) hb1
  clear hb1
  refine (filled_any g l 0 w1 w2 hdi).mono ?_
  rintro e w3 ⟨ts, ls, A3, c3, B3, d3, j3, rfl, hinv, ho3, hp3, hne3, hdi3, hbut3⟩
  have HBW3 : Below w.heap.size w w3 := bel_step HBW1 hdi3.2.2
  have HT3 := Lib.hid (fun (W : World) (hb : Below w3.heap.size w3 W) => rd_step ho3.rd hb)
  have HL3 := Lib.hid (fun (W : World) (hb : Below w3.heap.size w3 W) => rd_step hp3.rd hb)
  have HI := Lib.hid hinv
  have tl := hinv.tl
  have ll := hinv.ll
  clear hinv ho3 hp3 hne3 hdi3 hbut3 hb2 hdi HBW1 hd hl HR
  obtain ⟨i41, hi41, hz41, hs41, hb41⟩ := info_parts info41
  by_cases hpl : placeI ts ⟨#[109, 105, 108, 108]⟩ < 0
  · have hf := pages_none (ls := ls) ⟨#[109, 105, 108, 108]⟩ hpl
    have HF := Lib.hid hf
    clear hf
    go_wp2_with fail
    refine (fetch_any A3 ts.length c3 ts B3 ls.length d3 ls ⟨#[109, 105, 108, 108]⟩ 0 1000 _ (HT3.out _ (by repeat (first | exact Below.refl _ _ | with_reducible apply bel_drew | with_reducible apply bel_drewN | with_reducible apply bel_alloc | (with_reducible refine bel_set ?_ (by first | omega | (simp <;> omega)) _) | (with_reducible refine bel_step ?_ (by assumption)) | (with_reducible refine bel_step ?_ (grown_none (by assumption)))))) (HL3.out _ (by repeat (first | exact Below.refl _ _ | with_reducible apply bel_drew | with_reducible apply bel_drewN | with_reducible apply bel_alloc | (with_reducible refine bel_set ?_ (by first | omega | (simp <;> omega)) _) | (with_reducible refine bel_step ?_ (by assumption)) | (with_reducible refine bel_step ?_ (grown_none (by assumption)))))) (by omega) (by omega)).mono ?_
    intro e w4 h
    obtain ⟨A4, c4, rfl, ho4, hb4⟩ := h.open HF.out
    clear h ho4
    go_wp2_with (go_at_call 8; refine (awake_any _).mono ?_; rintro e w5 ⟨rfl, hb5⟩)
    go_ret
    exact ⟨rfl, (by repeat (first | exact HBW3 | exact Below.refl _ _ | with_reducible apply bel_drew | with_reducible apply bel_drewN | with_reducible apply bel_alloc | (with_reducible refine bel_set ?_ (by first | omega | (simp <;> omega)) _) | (with_reducible refine bel_step ?_ (by assumption)) | (with_reducible refine bel_step ?_ (grown_none (by assumption)))))⟩
  · have HPL := Lib.hid hpl
    have HF := Lib.hid (pages_all HI.out ⟨#[109, 105, 108, 108]⟩ hpl)
    have HCN := Lib.hid (lets_count ⟨#[109, 105, 108, 108]⟩ ls)
    have HST := Lib.hid (fun (k : Nat) (fr n : Int) hn hk => pages_step HI.out ⟨#[109, 105, 108, 108]⟩ (k := k) (fr := fr) (n := n) hn hpl hk)
    have HS0 := Lib.hid (show ls.filter (wantA ⟨#[109, 105, 108, 108]⟩ 0) = (lets ⟨#[109, 105, 108, 108]⟩ ls).drop 0 from by rw [List.drop_zero]; rfl)
    have lx : (lets ⟨#[109, 105, 108, 108]⟩ ls).length ≤ 8 := Nat.le_trans (List.length_filter_le _ _) HI.out.ll
    clear hpl
    generalize lets ⟨#[109, 105, 108, 108]⟩ ls = xs at HF HCN HST HS0 lx
    have HSL := Lib.hid (show sameL xs xs = true from sameL_self xs (by omega))
    have wx : IntKind.i64.wrap ((xs.length : Int) + 1) = ((xs.length + 1 : Nat) : Int) := by rw [IntWalk.i64_in _ (by omega)]; omega
    go_wp2_with fail
    refine (fetch_any A3 ts.length c3 ts B3 ls.length d3 ls ⟨#[109, 105, 108, 108]⟩ 0 1000 _ (HT3.out _ (by repeat (first | exact Below.refl _ _ | with_reducible apply bel_drew | with_reducible apply bel_drewN | with_reducible apply bel_alloc | (with_reducible refine bel_set ?_ (by first | omega | (simp <;> omega)) _) | (with_reducible refine bel_step ?_ (by assumption)) | (with_reducible refine bel_step ?_ (grown_none (by assumption)))))) (HL3.out _ (by repeat (first | exact Below.refl _ _ | with_reducible apply bel_drew | with_reducible apply bel_drewN | with_reducible apply bel_alloc | (with_reducible refine bel_set ?_ (by first | omega | (simp <;> omega)) _) | (with_reducible refine bel_step ?_ (by assumption)) | (with_reducible refine bel_step ?_ (grown_none (by assumption)))))) (by omega) (by omega)).mono ?_
    intro e w4 h
    obtain ⟨A4, c4, rfl, ho4, hb4⟩ := h.open HF.out
    have hzk := hb4.size; (try simp at hzk); obtain ⟨hck, hfk⟩ := bcell hb4; have k0 : w4.cell? ⟨w3.heap.size, 0, none⟩ = some (.slice A3 ts.length c3) := (hck _ _ (by first | omega | (simp <;> omega))).trans (by go_simp); have k1 : w4.cell? ⟨w3.heap.size, 1, none⟩ = some (.slice B3 ls.length d3) := (hck _ _ (by first | omega | (simp <;> omega))).trans (by go_simp); have kt0 : w3.heap.size < w4.heap.size := (by omega); have kt1 : w3.heap.size < w4.heap.size + 1 := (by omega); clear hck hfk
    have HX4 := Lib.hid (fun (W : World) (hb : Below w4.heap.size w4 W) => (show Rd dl W (.slice A4 xs.length c4) _ from rd_step ho4.rd hb))
    clear h ho4 HF
    go_wp2_with fail
    obtain ⟨V, hV⟩ : ∃ V, V = w4 := ⟨_, rfl⟩
    subst hV
    have hn1 : 1 ≤ 1 + most % 4 := by omega
    generalize 1 + most % 4 = n at hn1 ⊢
    clear wx
    go_loopw [9, 10, 39] (fun gt f i wr => ∃ (k j : Nat) (fr : Int) (Ag : Option Addr) (cg : Nat), gt = .slice Ag (xs.take k).length cg ∧ f = .int .i64 fr ∧ i = .int .i64 j ∧ k ≤ xs.length ∧ j ≤ xs.length + 1 ∧ (j ≤ k ∨ k = xs.length) ∧ ls.filter (wantA ⟨#[109, 105, 108, 108]⟩ fr) = xs.drop k ∧ Below V.heap.size V wr ∧ Own dl 41 wr V.heap.size (.slice Ag (xs.take k).length cg) (xs.take k)) (fun _ _ i _ => xs.length + 1 - (intOf i).toNat)
    case atStart => exact ⟨0, 0, 0, none, 0, rfl, rfl, rfl, by omega, by omega, by omega, HS0.out, (by repeat (first | exact Below.refl _ _ | with_reducible apply bel_drew | with_reducible apply bel_drewN | with_reducible apply bel_alloc | (with_reducible refine bel_set ?_ (by first | omega | (simp <;> omega)) _) | (with_reducible refine bel_step ?_ (by assumption)) | (with_reducible refine bel_step ?_ (grown_none (by assumption))))), Own.nil _ _ _ _⟩
    case round =>
      obtain ⟨k, j, fr, Ag, cg, rfl, rfl, rfl, hk, hj, hjk, hfil, hbw, hog⟩ := hrel
      have hzw := hbw.size
      obtain ⟨hcr, hfr⟩ := bcell hbw
      have r0 := (hcr _ 0 kt0).trans k0
      have r1 := (hcr _ 1 kt0).trans k1
      have rt0 : w3.heap.size < wr.heap.size := by omega
      have rt1 : w3.heap.size < wr.heap.size + 1 := by omega
      clear hcr hfr
      by_cases hlt : j < xs.length + 1
      · have qj : decide ((j : Int) < (xs.length : Int) + 1) = true := decide_eq_true (by omega)
        have HJ := Lib.hid hlt
        obtain ⟨L, hL0, hL1, hL2, hL3, hL4, hL5⟩ := HST.out k fr n hn1 hfil
        have HLL := Lib.hid hL5
        have HF0 := Lib.hid hL0
        have HFI := Lib.hid hfil
        obtain ⟨acc, hacc⟩ : ∃ a, a = xs.take k := ⟨_, rfl⟩
        obtain ⟨acc', hacc'⟩ : ∃ a, a = xs.take (k + L.length) := ⟨_, rfl⟩
        have la : acc.length ≤ 8 := by rw [hacc, List.length_take]; omega
        have lL : L.length ≤ 8 := by omega
        obtain ⟨N, hN⟩ : ∃ N, N = L.length := ⟨_, rfl⟩
        have HN := Lib.hid hN
        have lN : N ≤ 8 := by omega
        have lN2 : k + N ≤ xs.length := by omega
        have hL4' : N = 0 → xs.length ≤ k := fun h => hL4 (by omega)
        have HL4 := Lib.hid hL4'
        rw [← hacc] at hog hL2 ⊢
        rw [← hacc'] at hL2
        have HCA := Lib.hid hL2
        have HOG := Lib.hid hog
        have HAC := Lib.hid hacc'
        have qg : decide ((N : Int) > n) = false := decide_eq_false (by omega)
        clear hL5 hL0 hfil hacc hacc' hL2 hog hlt hN hL1 hL3 hL4 hL4'
        go_wp2_with fail
        refine (fetch_any A3 ts.length c3 ts B3 ls.length d3 ls ⟨#[109, 105, 108, 108]⟩ fr n _ (HT3.out _ (by repeat (first | exact Below.refl _ _ | with_reducible apply bel_drew | with_reducible apply bel_drewN | with_reducible apply bel_alloc | (with_reducible refine bel_set ?_ (by first | omega | (simp <;> omega)) _) | (with_reducible refine bel_step ?_ (by assumption)) | (with_reducible refine bel_step ?_ (grown_none (by assumption)))))) (HL3.out _ (by repeat (first | exact Below.refl _ _ | with_reducible apply bel_drew | with_reducible apply bel_drewN | with_reducible apply bel_alloc | (with_reducible refine bel_set ?_ (by first | omega | (simp <;> omega)) _) | (with_reducible refine bel_step ?_ (by assumption)) | (with_reducible refine bel_step ?_ (grown_none (by assumption)))))) (by omega) (by omega)).mono ?_
        intro e w5 h
        obtain ⟨A5, c5, rfl, ho5, hb5⟩ := h.openN (N := N) HF0.out HN.out.symm
        have hzm := hb5.size; (try simp at hzm); obtain ⟨hcm, hfm⟩ := bcell hb5; have m0 : w5.cell? ⟨w3.heap.size, 0, none⟩ = some (.slice A3 ts.length c3) := (hcm _ _ (by first | omega | (simp <;> omega))).trans (by go_simp); have m1 : w5.cell? ⟨w3.heap.size, 1, none⟩ = some (.slice B3 ls.length d3) := (hcm _ _ (by first | omega | (simp <;> omega))).trans (by go_simp); have mt0 : w3.heap.size < w5.heap.size := (by omega); have mt1 : w3.heap.size < w5.heap.size + 1 := (by omega); clear hcm hfm
        have hbw5 : Below V.heap.size V w5 := (by repeat (first | exact (bel_step hbw hb5) | exact Below.refl _ _ | with_reducible apply bel_drew | with_reducible apply bel_drewN | with_reducible apply bel_alloc | (with_reducible refine bel_set ?_ (by first | omega | (simp <;> omega)) _) | (with_reducible refine bel_step ?_ (by assumption)) | (with_reducible refine bel_step ?_ (grown_none (by assumption)))))
        have HL5 := Lib.hid (fun (W : World) (hb : Below w5.heap.size w5 W) => (show Rd dl W (.slice A5 N c5) _ from rd_step ho5.rd hb))
        by_cases hLe : N = 0
        · have qz : decide ((N : Int) > 0) = false := decide_eq_false (by omega)
          have qz0 : ¬ 0 < N := by omega
          have qz1 : ¬ (0 : Int) < (N : Int) := by omega
          have HE := Lib.hid hLe
          have HK := Lib.hid (show k ≤ xs.length ∧ j < xs.length + 1 ∧ (j ≤ k ∨ k = xs.length) ∧ k + N ≤ xs.length from ⟨hk, HJ.out, hjk, lN2⟩)
          clear h ho5 hLe
          go_wp2_with (at_builtin; have t1 : Own dl 41 w5 V.heap.size (.slice Ag acc.length cg) acc := HOG.out.below hb5; have t2 : Rd dl w5 (.slice A5 N c5) L := HL5.out _ (Below.refl _ _); refine wpList_append_rd (d := dl) (v := .slice Ag acc.length cg) (y := .slice A5 N c5) (xs := acc) (ys := L) rfl _ _ 28 rfl 41 i41 _ 40 V.heap.size Try.underlying28 hi41 hz41 hs41 hb41 rfl rfl t1 rfl t2 (by omega) (by unfold maxLen; omega) (by first | omega | (simp <;> omega)) acc'.length (by rw [HCA.out]) ?_; clear t1 t2; intro A6 c6 w6 ho6 hg6 hat6; have hz6 := hg6.size; (try simp at hz6); have z0 : w6.cell? ⟨w3.heap.size, 0, none⟩ = some (.slice A3 ts.length c3) := ((grown_cell hg6 (by first | omega | (simp <;> omega)) (fun e => by have := (HOG.out.block _ e).1; omega)).1 _).trans (by go_simp); have z1 : w6.cell? ⟨w3.heap.size, 1, none⟩ = some (.slice B3 ls.length d3) := ((grown_cell hg6 (by first | omega | (simp <;> omega)) (fun e => by have := (HOG.out.block _ e).1; omega)).1 _).trans (by go_simp); have zt : w3.heap.size < w6.heap.size := (by omega); have hb6 : Below V.heap.size V w6 := bel_grown (by repeat (first | exact hbw5 | exact Below.refl _ _ | with_reducible apply bel_drew | with_reducible apply bel_drewN | with_reducible apply bel_alloc | (with_reducible refine bel_set ?_ (by first | omega | (simp <;> omega)) _) | (with_reducible refine bel_step ?_ (by assumption)) | (with_reducible refine bel_step ?_ (grown_none (by assumption))))) hg6 (fun k hk => by have := (HOG.out.block k hk).1; omega); have HG6 := Lib.hid (fun b (hb : b < w5.heap.size) (hb2 : wr.heap.size ≤ b) o => (grown_cell hg6 (b := b) (by first | omega | (simp <;> omega)) (fun e => by have := (HOG.out.block _ e).2; omega)).1 o); clear hat6 hg6; rw [HCA.out] at ho6; have HO6 := Lib.hid ho6; clear ho6)
          go_roundw
          case rel =>
            refine ⟨k + L.length, j + 1, fr, A6, c6, ?_, rfl, by go_num, by have := HN.out; have := HK.out; omega, by have := HK.out; omega, ?_, by rw [show L.length = 0 from HN.out.symm.trans HE.out, Nat.add_zero]; exact HFI.out, (by repeat (first | exact hb6 | exact Below.refl _ _ | with_reducible apply bel_drew | with_reducible apply bel_drewN | with_reducible apply bel_alloc | (with_reducible refine bel_set ?_ (by first | omega | (simp <;> omega)) _) | (with_reducible refine bel_step ?_ (by assumption)) | (with_reducible refine bel_step ?_ (grown_none (by assumption))))), ?_⟩
            · rw [← HAC.out]
            · have := HL4.out HE.out; have := HN.out; have := HK.out; have := HE.out; omega
            · rw [← HAC.out]; exact ((by (repeat (first | (with_reducible refine Own.setCell ?_ (fun k hk => by have := HO6.out.block k hk; simp <;> omega) _) | (with_reducible refine Ow.own_alloc ?_ _) | (with_reducible refine Ow.own_drew ?_) | (with_reducible refine Ow.own_drewN ?_ _))); exact HO6.out))
          case measure => have := HK.out; simp [intOf]; omega
        · obtain ⟨m, hm⟩ : ∃ m, N = m + 1 := ⟨N - 1, by omega⟩
          have qz : decide ((N : Int) > 0) = true := decide_eq_true (by omega)
          have wl : IntKind.i64.wrap ((N : Int) - 1) = (m : Int) := by rw [IntWalk.i64_in _ (by omega)]; omega
          have hmL : m < N := by omega
          have hmL2 : m < L.length := by have := HN.out; omega
          obtain ⟨y, hy⟩ : ∃ y, L[m]? = some y := ⟨_, List.getElem?_eq_getElem hmL2⟩
          obtain ⟨hy0, hy1, hy2⟩ := HLL.out y (by rw [show L.length - 1 = m by have := HN.out; omega]; exact hy)
          have HY2 := Lib.hid hy2
          have wf : IntKind.i64.wrap (y.f1 + 1) = y.f1 + 1 := IntWalk.i64_in _ (by omega)
          obtain ⟨g5, rfl, hg5a, hg5b, hg5c⟩ := own_num ho5 hy
          have hg5d : wr.heap.size ≤ g5 := by first | exact hg5a | (simp at hg5a; omega)
          have HM := Lib.hid hm
          clear h ho5 hLe hm hy2 hy hg5a hmL2
          go_wp2_with (at_builtin; have t1 : Own dl 41 w5 V.heap.size (.slice Ag acc.length cg) acc := HOG.out.below hb5; have t2 : Rd dl w5 (.slice (some ⟨g5, 0, none⟩) N c5) L := HL5.out _ (Below.refl _ _); refine wpList_append_rd (d := dl) (v := .slice Ag acc.length cg) (y := .slice (some ⟨g5, 0, none⟩) N c5) (xs := acc) (ys := L) rfl _ _ 28 rfl 41 i41 _ 40 V.heap.size Try.underlying28 hi41 hz41 hs41 hb41 rfl rfl t1 rfl t2 (by omega) (by unfold maxLen; omega) (by first | omega | (simp <;> omega)) acc'.length (by rw [HCA.out]) ?_; clear t1 t2; intro A6 c6 w6 ho6 hg6 hat6; have hz6 := hg6.size; (try simp at hz6); have z0 : w6.cell? ⟨w3.heap.size, 0, none⟩ = some (.slice A3 ts.length c3) := ((grown_cell hg6 (by first | omega | (simp <;> omega)) (fun e => by have := (HOG.out.block _ e).1; omega)).1 _).trans (by go_simp); have z1 : w6.cell? ⟨w3.heap.size, 1, none⟩ = some (.slice B3 ls.length d3) := ((grown_cell hg6 (by first | omega | (simp <;> omega)) (fun e => by have := (HOG.out.block _ e).1; omega)).1 _).trans (by go_simp); have zt : w3.heap.size < w6.heap.size := (by omega); have hb6 : Below V.heap.size V w6 := bel_grown (by repeat (first | exact hbw5 | exact Below.refl _ _ | with_reducible apply bel_drew | with_reducible apply bel_drewN | with_reducible apply bel_alloc | (with_reducible refine bel_set ?_ (by first | omega | (simp <;> omega)) _) | (with_reducible refine bel_step ?_ (by assumption)) | (with_reducible refine bel_step ?_ (grown_none (by assumption))))) hg6 (fun k hk => by have := (HOG.out.block k hk).1; omega); have HG6 := Lib.hid (fun b (hb : b < w5.heap.size) (hb2 : wr.heap.size ≤ b) o => (grown_cell hg6 (b := b) (by first | omega | (simp <;> omega)) (fun e => by have := (HOG.out.block _ e).2; omega)).1 o); clear hat6 hg6; rw [HCA.out] at ho6; have HO6 := Lib.hid ho6; clear ho6; have z5 : w6.cell? ⟨g5, m * 3 + 1, none⟩ = some (.int .i64 y.f1) := (HG6.out g5 (by omega) (by omega) _).trans (by first | exact hg5c | go_simp); have zt5 : g5 < w6.heap.size := (by omega))
          go_roundw
          case rel =>
            refine ⟨k + L.length, j + 1, y.f1 + 1, A6, c6, ?_, rfl, by go_num, by have := HN.out; omega, by omega, ?_, HY2.out, (by repeat (first | exact hb6 | exact Below.refl _ _ | with_reducible apply bel_drew | with_reducible apply bel_drewN | with_reducible apply bel_alloc | (with_reducible refine bel_set ?_ (by first | omega | (simp <;> omega)) _) | (with_reducible refine bel_step ?_ (by assumption)) | (with_reducible refine bel_step ?_ (grown_none (by assumption))))), ?_⟩
            · rw [← HAC.out]
            · have := HM.out; have := HN.out; omega
            · rw [← HAC.out]; exact ((by (repeat (first | (with_reducible refine Own.setCell ?_ (fun k hk => by have := HO6.out.block k hk; simp <;> omega) _) | (with_reducible refine Ow.own_alloc ?_ _) | (with_reducible refine Ow.own_drew ?_) | (with_reducible refine Ow.own_drewN ?_ _))); exact HO6.out))
          case measure => simp [intOf]; omega
      · have hkx : k = xs.length := by omega
        subst hkx
        have qj : decide ((j : Int) < (xs.length : Int) + 1) = false := decide_eq_false (by omega)
        rw [List.take_length] at hog ⊢
        have HOG := Lib.hid (fun (W : World) (hb : Below wr.heap.size wr W) => (show Rd dl W (.slice Ag xs.length cg) xs from rd_step hog.rd hb))
        clear hog hfil
        go_wp2_with (first | (go_at_call 17; (with_reducible refine (sameL_ref17 Ag A4 xs.length cg xs.length c4 xs xs _ (HOG.out _ (by repeat (first | exact Below.refl _ _ | with_reducible apply bel_drew | with_reducible apply bel_drewN | with_reducible apply bel_alloc | (with_reducible refine bel_set ?_ (by first | omega | (simp <;> omega)) _) | (with_reducible refine bel_step ?_ (by assumption)) | (with_reducible refine bel_step ?_ (grown_none (by assumption)))))) (HX4.out _ (by repeat (first | exact Below.refl _ _ | with_reducible apply bel_drew | with_reducible apply bel_drewN | with_reducible apply bel_alloc | (with_reducible refine bel_set ?_ (by first | omega | (simp <;> omega)) _) | (with_reducible refine bel_step ?_ (by assumption)) | (with_reducible refine bel_step ?_ (grown_none (by assumption)))))) (by omega)).mono ?_); rintro e w6 ⟨rfl, hb6⟩; rw [HSL.out]; have hzs := hb6.size; (try simp at hzs); obtain ⟨hcs, hfs⟩ := bcell hb6; have s0 : w6.cell? ⟨w3.heap.size, 0, none⟩ = some (.slice A3 ts.length c3) := (hcs _ _ (by first | omega | (simp <;> omega))).trans (by go_simp); have s1 : w6.cell? ⟨w3.heap.size, 1, none⟩ = some (.slice B3 ls.length d3) := (hcs _ _ (by first | omega | (simp <;> omega))).trans (by go_simp); have st0 : w3.heap.size < w6.heap.size := (by omega); have st1 : w3.heap.size < w6.heap.size + 1 := (by omega); clear hcs hfs) | (go_at_call 18; (with_reducible refine (count_any A3 ts.length c3 B3 ls.length d3 ls ⟨#[109, 105, 108, 108]⟩ _ (HL3.out _ (by repeat (first | exact Below.refl _ _ | with_reducible apply bel_drew | with_reducible apply bel_drewN | with_reducible apply bel_alloc | (with_reducible refine bel_set ?_ (by first | omega | (simp <;> omega)) _) | (with_reducible refine bel_step ?_ (by assumption)) | (with_reducible refine bel_step ?_ (grown_none (by assumption)))))) (by omega)).mono ?_); rintro e w7 ⟨rfl, hb7⟩; rw [HCN.out]) | (go_at_call 8; refine (awake_any _).mono ?_; rintro e w8 ⟨rfl, hb8⟩))
        go_ret
        exact ⟨rfl, (by repeat (first | exact (bel_step (HBW3) (bel_step (by repeat (first | exact (Below.refl _ _) | exact Below.refl _ _ | with_reducible apply bel_drew | with_reducible apply bel_drewN | with_reducible apply bel_alloc | (with_reducible refine bel_set ?_ (by first | omega | (simp <;> omega)) _) | (with_reducible refine bel_step ?_ (by assumption)) | (with_reducible refine bel_step ?_ (grown_none (by assumption))))) hbw)) | exact Below.refl _ _ | with_reducible apply bel_drew | with_reducible apply bel_drewN | with_reducible apply bel_alloc | (with_reducible refine bel_set ?_ (by first | omega | (simp <;> omega)) _) | (with_reducible refine bel_step ?_ (by assumption)) | (with_reducible refine bel_step ?_ (grown_none (by assumption)))))⟩
end Go.Proofs.Ytamkkpdhponhnaa.Nw
