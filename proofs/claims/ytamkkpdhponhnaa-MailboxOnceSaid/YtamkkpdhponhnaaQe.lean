/- MailboxOnce: the walk. -/
import Derived.Test.YtamkkpdhponhnaaQd
import Derived.LoopTactic
import Derived.Outline
import Derived.Deep.RegionLaw
namespace Go.Proofs.Ytamkkpdhponhnaa.Nw
open Go.RowKit Go.Proofs.Ytamkkpdhponhnaa.Ow Go.Proofs.Ytamkkpdhponhnaa.PMailboxAll Go.Proofs.YtamkkpdhponhnaaW.PrintWords
set_option linter.unusedVariables false
set_option linter.unusedSimpArgs false

theorem FetchIs.openN {w w' : World} {e : Ending} {r : List S41 × Int} (h : FetchIs w e w' r) {L : List S41} {er : Int} {N : Nat} (hr : r = (L, er)) (hN : L.length = N) :
    ∃ A c, e = .returned (.tuple #[.slice A N c, .int .i64 er]) ∧ Own dl 41 w' w.heap.size (.slice A N c) L ∧ Below w.heap.size w w' := by subst hr; subst hN; exact h
set_option maxRecDepth 100000 in
theorem once_long (A : Option Addr) (c : Nat) (l : List Int) (most : Int) (w : World) (hr : Kd.C (Kd.int .i64) w A l.length l) (hc : l.length ≤ c) (hl : ¬ l.length ≤ 500) :
    Calls Try.prog 3 #[.slice A l.length c, .int .u8 most] w fun e w' => e = .returned (.bool true) ∧ Below w.heap.size w w' := by
  have hd : decide ((l.length : Int) ≤ 500) = false := decide_eq_false (by omega)
  have HR := Lib.hid hr
  clear hr
  go_enter Try.func3, Try.ntmps3
  go_wp2_with (first | (go_at_call 7; refine (light_any A c l _ (Kd.C_below HR.out (by repeat (first | exact Below.refl _ _ | with_reducible apply bel_drew | with_reducible apply bel_drewN | with_reducible apply bel_alloc | (with_reducible refine bel_set ?_ (by first | omega | (simp <;> omega)) _) | (with_reducible refine bel_step ?_ (by assumption)) | (with_reducible refine bel_step ?_ (grown_none (by assumption)))))) hc).mono ?_; rintro e w1 ⟨rfl, hb1⟩) | (go_at_call 8; refine (awake_any _).mono ?_; rintro e w2 ⟨rfl, hb2⟩))
  go_ret
  exact ⟨rfl, (by repeat (first | exact Below.refl _ _ | with_reducible apply bel_drew | with_reducible apply bel_drewN | with_reducible apply bel_alloc | (with_reducible refine bel_set ?_ (by first | omega | (simp <;> omega)) _) | (with_reducible refine bel_step ?_ (by assumption)) | (with_reducible refine bel_step ?_ (grown_none (by assumption)))))⟩
set_option maxRecDepth 100000 in
set_option maxHeartbeats 16000000 in
theorem once_short (A : Option Addr) (c : Nat) (l : List Int) (most : Int) (w : World) (hr : Kd.C (Kd.int .i64) w A l.length l) (hc : l.length ≤ c) (hl : l.length ≤ 500) (hm0 : 0 ≤ most) (hm1 : most ≤ 255) :
    Calls Try.prog 3 #[.slice A l.length c, .int .u8 most] w fun e w' => e = .returned (.bool true) ∧ Below w.heap.size w w' := by
  have hd : decide ((l.length : Int) ≤ 500) = true := decide_eq_true (by omega)
  have HR := Lib.hid hr
  clear hr
  go_enter Try.func3, Try.ntmps3
  go_wp2_with (first | (go_at_call 7; refine (light_any A c l _ (Kd.C_below HR.out (by repeat (first | exact Below.refl _ _ | with_reducible apply bel_drew | with_reducible apply bel_drewN | with_reducible apply bel_alloc | (with_reducible refine bel_set ?_ (by first | omega | (simp <;> omega)) _) | (with_reducible refine bel_step ?_ (by assumption)) | (with_reducible refine bel_step ?_ (grown_none (by assumption)))))) hc).mono ?_; rintro e w1 ⟨rfl, hb1⟩) | (go_at_call 9; refine (roll_any A c l _ (Kd.C_below HR.out (by repeat (first | exact Below.refl _ _ | with_reducible apply bel_drew | with_reducible apply bel_drewN | with_reducible apply bel_alloc | (with_reducible refine bel_set ?_ (by first | omega | (simp <;> omega)) _) | (with_reducible refine bel_step ?_ (by assumption)) | (with_reducible refine bel_step ?_ (grown_none (by assumption)))))) hc hl).mono ?_; rintro e w2 ⟨g, rfl, hdi, hb2⟩) | fail)
  have HBW1 : Below w.heap.size w w1 := bel_step (by repeat (first | exact Below.refl _ _ | with_reducible apply bel_drew | with_reducible apply bel_drewN | with_reducible apply bel_alloc | (with_reducible refine bel_set ?_ (by first | omega | (simp <;> omega)) _) | (with_reducible refine bel_step ?_ (by assumption)) | (with_reducible refine bel_step ?_ (grown_none (by assumption))))) hb1
  clear hb1
  have hg := hdi.lt
  have hgw := hb2.size
  have HD2 := Lib.hid hdi
  clear hdi hd hl HR hb2
  obtain ⟨i9, hi9, hz9, hs9, hb9⟩ := info_parts info9
  go_wp2_with fail
  refine (dnext_any g l 0 12 w1 _ (HD2.out.step (by repeat (first | exact Below.refl _ _ | with_reducible apply bel_drew | with_reducible apply bel_drewN | with_reducible apply bel_alloc | (with_reducible refine bel_set ?_ (by first | omega | (simp <;> omega)) _) | (with_reducible refine bel_step ?_ (by assumption)) | (with_reducible refine bel_step ?_ (grown_none (by assumption)))))) (by omega) (by omega)).mono ?_
  rintro e w3 ⟨r, j, rfl, hr0, hr1, hd3, hb3⟩
  obtain ⟨n, rfl⟩ := Int.eq_ofNat_of_zero_le hr0
  have hz3 := hb3.1
  simp at hz3
  have HST : On w1 w2 g l none 0 [] none 0 [] none 0 [] none 0 [] w3 := ⟨⟨j, hd3⟩, by omega,
    ((hb3.cell (by first | omega | (simp <;> omega)) (by omega)).1 _).trans (by go_simp), ((hb3.cell (by first | omega | (simp <;> omega)) (by omega)).1 _).trans (by go_simp), ((hb3.cell (by first | omega | (simp <;> omega)) (by omega)).2 _).trans (by go_simp), ((hb3.cell (by first | omega | (simp <;> omega)) (by omega)).2 _).trans (by go_simp),
    Own.nil _ _ _ _, Own.nil _ _ _ _, Own.nil _ _ _ _, Own.nil _ _ _ _, fun k hk => by simp [Value.ownBlock] at hk, fun k hk => by simp [Value.ownBlock] at hk⟩
  have HS := Lib.hid HST
  clear HST hd3 hb3 hr0 hz3 HD2
  go_wp2_with fail
  go_loopw [7, 8, 9, 10] (fun wv gv nv kv wr => ∃ (kk cc : Nat) (A : Option Addr) (cA : Nat) (ts : List S56) (B : Option Addr) (cB : Nat) (ls : List S41) (Aw : Option Addr) (cw : Nat) (want : List ByteArray) (Ag : Option Addr) (cg : Nat) (got : List ByteArray), wv = .slice Aw want.length cw ∧ gv = .slice Ag got.length cg ∧ nv = .int .i64 (got.length : Nat) ∧ kv = .int .i64 ((kk : Int) - 1) ∧ cc + kk ≤ 12 ∧ (kk = 0 → got.length = want.length) ∧ OnceP cc ts ls want got ∧ On w1 w2 g l A cA ts B cB ls Aw cw want Ag cg got wr) (fun _ _ _ kv _ => (intOf kv + 1).toNat)
  case atStart => exact ⟨n + 1, 0, none, 0, [], none, 0, [], none, 0, [], none, 0, [], rfl, rfl, rfl, by congr 1; omega, by omega, fun h => by omega, once_nil, HS.out⟩
  case round =>
    obtain ⟨V, hV⟩ : ∃ V, V = wr := ⟨_, rfl⟩
    subst hV
    obtain ⟨kk, cc, A, cA, ts, B, cB, ls, Aw, cw, want, Ag, cg, got, rfl, rfl, rfl, rfl, hck, hend, hP, hon⟩ := hrel
    have HP := Lib.hid hP
    have HO3 := Lib.hid hon
    have v0 := hon.c0
    have v1 := hon.c1
    have v2 := hon.fc0
    have v3 := hon.fc1
    have vt0 := hon.sz
    have vt1 : w2.heap.size < V.heap.size + 1 := by omega
    have lg := hP.le
    have lw : want.length ≤ cc := by have h1 := hP.inv.nx ⟨#[109, 105, 108, 108]⟩; have h2 := hP.nx; omega
    have lt := hP.inv.tl
    have ll := hP.inv.ll
    clear hP hon HS
    by_cases hk : kk = 0
    · subst hk
      have hwg : want = got := by
        have h1 := HP.out.gt
        rw [hend rfl, List.take_length] at h1
        exact h1.symm
      subst hwg
      have HNX := Lib.hid HP.out.nx
      obtain ⟨jj, hdd⟩ := HO3.out.dc
      have HBV : Below w.heap.size w V := bel_step HBW1 hdd.2.2
      have qk : decide ((-1 : Int) ≥ 0) = false := by decide
      have lw2 : want.length ≤ 12 := by omega
      rw [show ((0 : Nat) : Int) - 1 = -1 from rfl]
      clear hdd hend lg
      go_wp2_with (go_at_call 13; (with_reducible refine (next_any A ts.length cA ts (.slice B ls.length cB) ⟨_, _, _, rfl⟩ ⟨#[109, 105, 108, 108]⟩ _ (HO3.out.bel (by repeat (first | exact Below.refl _ _ | with_reducible apply bel_drew | with_reducible apply bel_drewN | with_reducible apply bel_alloc | (with_reducible refine bel_set ?_ (by first | omega | (simp <;> omega)) _) | (with_reducible refine bel_step ?_ (by assumption)) | (with_reducible refine bel_step ?_ (grown_none (by assumption)))))).ot.rd (by omega)).mono ?_); rintro e w4 ⟨rfl, hb4⟩; rw [HNX.out])
      go_loopw [144] (fun iv wr => ∃ i : Nat, i ≤ want.length ∧ iv = .int .i64 (i : Nat) ∧ Below V.heap.size V wr) (fun iv _ => want.length - (intOf iv).toNat)
      case atStart => exact ⟨0, by omega, rfl, (by repeat (first | exact Below.refl _ _ | with_reducible apply bel_drew | with_reducible apply bel_drewN | with_reducible apply bel_alloc | (with_reducible refine bel_set ?_ (by first | omega | (simp <;> omega)) _) | (with_reducible refine bel_step ?_ (by assumption)) | (with_reducible refine bel_step ?_ (grown_none (by assumption)))))⟩
      case round =>
        obtain ⟨i, hi, rfl, hbw⟩ := hrel
        by_cases hlt : i < want.length
        · have qi : decide ((i : Int) < (want.length : Int)) = true := decide_eq_true (by omega)
          obtain ⟨b, hb⟩ : ∃ b, want[i]? = some b := ⟨_, List.getElem?_eq_getElem hlt⟩
          have HOW := Lib.hid (HO3.out.bel hbw)
          obtain ⟨ga, oa, hea, gla, cca⟩ : ∃ ga oa, Aw = some ⟨ga, oa, none⟩ ∧ ga < wr.heap.size ∧ wr.cell? ⟨ga, oa + i, none⟩ = some (.string b) := by
            obtain ⟨gh, oh, he, hlt', hcx⟩ := HOW.out.ow.rd.at_ hb
            refine ⟨gh, oh, he, hlt', ?_⟩
            rw [show oh + i = oh + i * 1 + 0 by omega]
            exact hcx 0 _ rfl
          obtain ⟨gc, oc, hec, glc, ccc⟩ : ∃ gc oc, Ag = some ⟨gc, oc, none⟩ ∧ gc < wr.heap.size ∧ wr.cell? ⟨gc, oc + i, none⟩ = some (.string b) := by
            obtain ⟨gh, oh, he, hlt', hcx⟩ := HOW.out.og.rd.at_ hb
            refine ⟨gh, oh, he, hlt', ?_⟩
            rw [show oh + i = oh + i * 1 + 0 by omega]
            exact hcx 0 _ rfl
          subst hea
          subst hec
          have wi : IntKind.i64.wrap ((i : Int) + 1) = ((i + 1 : Nat) : Int) := by rw [IntWalk.i64_in _ (by omega)]; omega
          clear hb HOW
          go_upto_region 38 with fail
          go_cut [155] from 147 to 155 (fun v wx => v = .bool false ∧ Below wr.heap.size wr wx)
          case first =>
            go_region
            all_goals go_wp2_with fail
            all_goals
              go_meet
              case rel => exact ⟨rfl, (by repeat (first | exact Below.refl _ _ | with_reducible apply bel_drew | with_reducible apply bel_drewN | with_reducible apply bel_alloc | (with_reducible refine bel_set ?_ (by first | omega | (simp <;> omega)) _) | (with_reducible refine bel_step ?_ (by assumption)) | (with_reducible refine bel_step ?_ (grown_none (by assumption)))))⟩
          case rest =>
            obtain ⟨rfl, hbx⟩ := hcut
            go_wp2_with fail
            go_roundw
            case rel => exact ⟨i + 1, by omega, by go_num, bel_step hbw (by repeat (first | exact hbx | exact Below.refl _ _ | with_reducible apply bel_drew | with_reducible apply bel_drewN | with_reducible apply bel_alloc | (with_reducible refine bel_set ?_ (by first | omega | (simp <;> omega)) _) | (with_reducible refine bel_step ?_ (by assumption)) | (with_reducible refine bel_step ?_ (grown_none (by assumption)))))⟩
            case measure => first | (simp [intOf]; done) | (simp [intOf]; omega)
        · have qi : decide ((i : Int) < (want.length : Int)) = false := decide_eq_false (by omega)
          go_wp2_with (go_at_call 8; refine (awake_any _).mono ?_; rintro e w5 ⟨rfl, hb5⟩)
          go_ret
          exact ⟨rfl, (by repeat (first | exact (bel_step HBV hbw) | exact Below.refl _ _ | with_reducible apply bel_drew | with_reducible apply bel_drewN | with_reducible apply bel_alloc | (with_reducible refine bel_set ?_ (by first | omega | (simp <;> omega)) _) | (with_reducible refine bel_step ?_ (by assumption)) | (with_reducible refine bel_step ?_ (grown_none (by assumption)))))⟩
    · obtain ⟨k1, rfl⟩ : ∃ k1, kk = k1 + 1 := ⟨kk - 1, by omega⟩
      rw [show ((k1 + 1 : Nat) : Int) - 1 = (k1 : Int) by omega]
      have qk : decide ((k1 : Int) ≥ 0) = true := decide_eq_true (by omega)
      have wk : IntKind.i64.wrap ((k1 : Int) - 1) = (k1 : Int) - 1 := IntWalk.i64_in _ (by omega)
      clear hend hk
      go_upto_region 11 with (first | (go_at_call 11; (with_reducible refine (word2_on (HO3.out.bel (by repeat (first | exact Below.refl _ _ | with_reducible apply bel_drew | with_reducible apply bel_drewN | with_reducible apply bel_alloc | (with_reducible refine bel_set ?_ (by first | omega | (simp <;> omega)) _) | (with_reducible refine bel_step ?_ (by assumption)) | (with_reducible refine bel_step ?_ (grown_none (by assumption)))))) hg _ ⟨#[109, 105, 108, 108]⟩ ⟨#[102, 111, 114, 100]⟩ (by first | omega | (simp <;> omega)) (by first | omega | (simp <;> omega)) (by go_simp) (by go_simp)).mono ?_); rintro e w4 ⟨s4, rfl, hs4, hon4, hz4⟩; (try simp at hz4); have p40 := hon4.c0; have p41 := hon4.c1; have p42 := hon4.fc0; have p43 := hon4.fc1; have p4t0 : w2.heap.size < w4.heap.size := hon4.sz; have p4t1 : w2.heap.size < w4.heap.size + 1 := (by omega); have HO4 := Lib.hid hon4; clear hon4) | (go_at_call 11; (with_reducible refine (word3_on (HO4.out.bel (by repeat (first | exact Below.refl _ _ | with_reducible apply bel_drew | with_reducible apply bel_drewN | with_reducible apply bel_alloc | (with_reducible refine bel_set ?_ (by first | omega | (simp <;> omega)) _) | (with_reducible refine bel_step ?_ (by assumption)) | (with_reducible refine bel_step ?_ (grown_none (by assumption)))))) hg _ ⟨#[97]⟩ ⟨#[98]⟩ ⟨#[99]⟩ (by first | omega | (simp <;> omega)) (by first | omega | (simp <;> omega)) (by go_simp) (by go_simp) (by go_simp)).mono ?_); rintro e w5 ⟨s5, rfl, hs5, hon5, hz5⟩; (try simp at hz5); have p50 := hon5.c0; have p51 := hon5.c1; have p52 := hon5.fc0; have p53 := hon5.fc1; have p5t0 : w2.heap.size < w5.heap.size := hon5.sz; have p5t1 : w2.heap.size < w5.heap.size + 1 := (by omega); have HO5 := Lib.hid hon5; clear hon5))
      go_wp2_with fail
      obtain ⟨ts', ls', want', hput, hP', hcase⟩ := once_put HP.out (by omega) hs4 hs5
      have HPUT := Lib.hid hput
      have HP' := Lib.hid hP'
      have HCASE := Lib.hid hcase
      have lw' : want'.length ≤ cc + 1 := by have h1 := hP'.inv.nx ⟨#[109, 105, 108, 108]⟩; have h2 := hP'.nx; omega
      have lt' := hP'.inv.tl
      have ll' := hP'.inv.ll
      have lg' := hP'.le
      clear hput hP' hcase v0 v1 v2 v3 vt0 vt1 p40 p41 p42 p43 p4t0 p4t1
      refine (put_any A ts.length cA ts B ls.length cB ls _ (HO5.out.bel (by repeat (first | exact Below.refl _ _ | with_reducible apply bel_drew | with_reducible apply bel_drewN | with_reducible apply bel_alloc | (with_reducible refine bel_set ?_ (by first | omega | (simp <;> omega)) _) | (with_reducible refine bel_step ?_ (by assumption)) | (with_reducible refine bel_step ?_ (grown_none (by assumption)))))).ot.rd (HO5.out.bel (by repeat (first | exact Below.refl _ _ | with_reducible apply bel_drew | with_reducible apply bel_drewN | with_reducible apply bel_alloc | (with_reducible refine bel_set ?_ (by first | omega | (simp <;> omega)) _) | (with_reducible refine bel_step ?_ (by assumption)) | (with_reducible refine bel_step ?_ (grown_none (by assumption)))))).ol.rd (by omega) (by omega) s4 s5).mono ?_
      intro e w6 h
      obtain ⟨A6, c6, B6, d6, rfl, ho6, hp6, hne6, hb6⟩ := h.open HPUT.out rfl rfl
      have HO6 := Lib.hid (HO5.out.bel (w2 := w6) (by first | exact hb6 | repeat (first | exact Below.refl _ _ | with_reducible apply bel_drew | with_reducible apply bel_drewN | with_reducible apply bel_alloc | (with_reducible refine bel_set ?_ (by first | omega | (simp <;> omega)) _) | (with_reducible refine bel_step ?_ (by assumption)) | (with_reducible refine bel_step ?_ (grown_none (by assumption))))))
      have p60 := HO6.out.c0; have p61 := HO6.out.c1; have p62 := HO6.out.fc0; have p63 := HO6.out.fc1; have p6t0 : w2.heap.size < w6.heap.size := HO6.out.sz; have p6t1 : w2.heap.size < w6.heap.size + 1 := (by omega)
      have hz6 := hb6.size
      have HQ6 := Lib.hid ho6
      have HR6 := Lib.hid hp6
      clear h hne6 p50 p51 p52 p53 p5t0 p5t1 HPUT ho6 hp6
      go_wp2_with fail
      refine (next_any A ts.length cA ts (.slice B ls.length cB) ⟨_, _, _, rfl⟩ s4 _ (HO6.out.bel (by repeat (first | exact Below.refl _ _ | with_reducible apply bel_drew | with_reducible apply bel_drewN | with_reducible apply bel_alloc | (with_reducible refine bel_set ?_ (by first | omega | (simp <;> omega)) _) | (with_reducible refine bel_step ?_ (by assumption)) | (with_reducible refine bel_step ?_ (grown_none (by assumption)))))).ot.rd (by omega)).mono ?_
      rintro e w7 ⟨rfl, hb7⟩
      have HO7 := Lib.hid (HO6.out.bel (w2 := w7) (by repeat (first | exact Below.refl _ _ | with_reducible apply bel_drew | with_reducible apply bel_drewN | with_reducible apply bel_alloc | (with_reducible refine bel_set ?_ (by first | omega | (simp <;> omega)) _) | (with_reducible refine bel_step ?_ (by assumption)) | (with_reducible refine bel_step ?_ (grown_none (by assumption))))))
      have p70 := HO7.out.c0; have p71 := HO7.out.c1; have p72 := HO7.out.fc0; have p73 := HO7.out.fc1; have p7t0 : w2.heap.size < w7.heap.size := HO7.out.sz; have p7t1 : w2.heap.size < w7.heap.size + 1 := (by omega)
      have hzq := hb7.size; (try simp at hzq); obtain ⟨hcq, hfq⟩ := bcell hb7; have q0 : w7.cell? ⟨w6.heap.size, 0, none⟩ = some (.slice A6 ts'.length c6) := (hcq _ _ (by first | omega | (simp <;> omega))).trans (by go_simp); have q1 : w7.cell? ⟨w6.heap.size, 1, none⟩ = some (.slice B6 ls'.length d6) := (hcq _ _ (by first | omega | (simp <;> omega))).trans (by go_simp); have qt0 : w6.heap.size < w7.heap.size := (by omega); have qt1 : w6.heap.size < w7.heap.size + 1 := (by omega); clear hcq hfq
      have hon8 := HO5.out.fill (w2 := w7) hg hgw (by repeat (first | exact Below.refl _ _ | with_reducible apply bel_drew | with_reducible apply bel_drewN | with_reducible apply bel_alloc | (with_reducible refine bel_set ?_ (by first | omega | (simp <;> omega)) _) | (with_reducible refine bel_step ?_ (by assumption)) | (with_reducible refine bel_step ?_ (grown_none (by assumption))))) (HQ6.out.below (by repeat (first | exact Below.refl _ _ | with_reducible apply bel_drew | with_reducible apply bel_drewN | with_reducible apply bel_alloc | (with_reducible refine bel_set ?_ (by first | omega | (simp <;> omega)) _) | (with_reducible refine bel_step ?_ (by assumption)) | (with_reducible refine bel_step ?_ (grown_none (by assumption)))))) (HR6.out.below (by repeat (first | exact Below.refl _ _ | with_reducible apply bel_drew | with_reducible apply bel_drewN | with_reducible apply bel_alloc | (with_reducible refine bel_set ?_ (by first | omega | (simp <;> omega)) _) | (with_reducible refine bel_step ?_ (by assumption)) | (with_reducible refine bel_step ?_ (grown_none (by assumption))))))
      clear p60 p61 p62 p63 p6t0 p6t1 hz6
      go_upto_if 59 with fail
      obtain ⟨W8, hW8⟩ : ∃ W8, W8 = ((w7.setCell ⟨w2.heap.size, 0, none⟩ (.slice A6 ts'.length c6)).setCell ⟨w2.heap.size, 1, none⟩ (.slice B6 ls'.length d6)) := ⟨_, rfl⟩
      rw [← hW8] at hon8 ⊢
      have HO8 := Lib.hid hon8
      have W8z := hon8.sz
      clear hon8 hW8 HO5 HO6 HO7 HO3 HO4 HQ6 HR6 hb6 hb7 hzq q0 q1 qt0 qt1 p70 p71 p72 p73 p7t0 p7t1
      go_cut [7] from 59 to 64 (fun v wx => ∃ (A9 : Option Addr) (c9 : Nat), v = .slice A9 want'.length c9 ∧ On w1 w2 g l A6 c6 ts' B6 d6 ls' A9 c9 want' Ag cg got wx)
      case first =>
        rcases HCASE.out with ⟨h1, h2⟩ | ⟨h1, h2⟩
        · have qe : (s4.toList == ([109, 105, 108, 108] : List UInt8)) = true := by rw [h1]; decide +kernel
          rw [qe]
          subst h2
          clear h1 HCASE
          go_wp2_with (at_builtin; have t1 := HO8.out.ow; have t2 : Own ds 9 (W8.alloc (.cells #[.string s5] 9)) (w2.heap.size + 1) (.slice Aw want.length cw) want := Ow.own_alloc t1 _; have t3 : Rd ds (W8.alloc (.cells #[.string s5] 9)) (.slice (some ⟨W8.heap.size, 0, none⟩) 1 1) [s5] := rd_lit9 _ (by first | omega | (simp <;> omega)) (by go_simp); refine wpList_append_rd (d := ds) (v := .slice Aw want.length cw) (y := .slice (some ⟨W8.heap.size, 0, none⟩) 1 1) (xs := want) (ys := [s5]) rfl _ _ 31 rfl 9 i9 _ 16 (w2.heap.size + 1) Try.underlying31 hi9 hz9 hs9 hb9 rfl rfl t2 rfl t3 (by first | omega | (simp <;> omega)) (by unfold maxLen; simp <;> omega) (by first | omega | (simp <;> omega)) (want ++ [s5]).length rfl ?_; clear t1 t2 t3; intro A9 c9 w9 ho9 hg9 hat9; have hon9 := On.wants (HO8.out.bel (w2 := W8.alloc (.cells #[.string s5] 9)) (by repeat (first | exact Below.refl _ _ | with_reducible apply bel_drew | with_reducible apply bel_drewN | with_reducible apply bel_alloc | (with_reducible refine bel_set ?_ (by first | omega | (simp <;> omega)) _) | (with_reducible refine bel_step ?_ (by assumption)) | (with_reducible refine bel_step ?_ (grown_none (by assumption)))))) hg hgw ho9 hg9 hat9; have HO9 := Lib.hid hon9; clear hon9 ho9 hg9 hat9)
          go_meet
          case rel => exact ⟨A9, c9, by simp, HO9.out⟩
        · have qe : (s4.toList == ([109, 105, 108, 108] : List UInt8)) = false := by rw [h1]; decide +kernel
          rw [qe]
          subst h2
          clear h1 HCASE
          go_wp2_with fail
          go_meet
          case rel => exact ⟨Aw, cw, rfl, HO8.out⟩
      case rest =>
        obtain ⟨A9, c9, rfl, hon9⟩ := hcut
        obtain ⟨Y, hY⟩ : ∃ Y, Y = wc := ⟨_, rfl⟩
        subst hY
        have HO9 := Lib.hid hon9
        have yz := hon9.sz
        clear hon9 HO8 W8z HCASE HP hs4 hs5
        go_upto_region 17 with fail
        go_cut [70] from 64 to 70 (fun v wx => ∃ b : Bool, v = .bool b ∧ (b = false → ¬ k1 = 0) ∧ On w1 w2 g l A6 c6 ts' B6 d6 ls' A9 c9 want' Ag cg got wx)
        case first =>
          go_wp2_with (go_at_call 10; (with_reducible refine (next_on (HO9.out.bel (by repeat (first | exact Below.refl _ _ | with_reducible apply bel_drew | with_reducible apply bel_drewN | with_reducible apply bel_alloc | (with_reducible refine bel_set ?_ (by first | omega | (simp <;> omega)) _) | (with_reducible refine bel_step ?_ (by assumption)) | (with_reducible refine bel_step ?_ (grown_none (by assumption)))))) hg 3 (by omega) (by omega)).mono ?_); rintro e w10 ⟨r10, rfl, hon10, hz10⟩; (try simp at hz10); have p100 := hon10.c0; have p101 := hon10.c1; have p102 := hon10.fc0; have p103 := hon10.fc1; have p10t0 : w2.heap.size < w10.heap.size := hon10.sz; have p10t1 : w2.heap.size < w10.heap.size + 1 := (by omega); have HO10 := Lib.hid hon10; clear hon10; by_cases q : r10 = 0)
          all_goals
            go_meet
            case rel => exact ⟨_, rfl, by first | (intro h; simp at h; done) | (intro h; simp at h; exact h) | (intro h; simp at h; omega), HO10.out.bel (by repeat (first | exact Below.refl _ _ | with_reducible apply bel_drew | with_reducible apply bel_drewN | with_reducible apply bel_alloc | (with_reducible refine bel_set ?_ (by first | omega | (simp <;> omega)) _) | (with_reducible refine bel_step ?_ (by assumption)) | (with_reducible refine bel_step ?_ (grown_none (by assumption)))))⟩
        case rest =>
          obtain ⟨b, rfl, hbk, hon10⟩ := hcut
          obtain ⟨Y2, hY2⟩ : ∃ Y2, Y2 = wc := ⟨_, rfl⟩
          subst hY2
          have HOY := Lib.hid hon10
          have HBK := Lib.hid hbk
          have y0 := hon10.c0
          have y1 := hon10.c1
          have y2 := hon10.fc0
          have y3 := hon10.fc1
          have yz2 := hon10.sz
          have yz3 : w2.heap.size < Y2.heap.size + 1 := by omega
          clear hon10 hbk HO9 yz
          cases b with
          | false =>
            have hk1 := HBK.out rfl
            go_wp2_with fail
            go_roundw
            case rel => exact ⟨k1, cc + 1, A6, c6, ts', B6, d6, ls', A9, c9, want', Ag, cg, got, rfl, rfl, rfl, by first | rfl | go_num, by omega, fun h => absurd h hk1, HP'.out, HOY.out.bel (by repeat (first | exact Below.refl _ _ | with_reducible apply bel_drew | with_reducible apply bel_drewN | with_reducible apply bel_alloc | (with_reducible refine bel_set ?_ (by first | omega | (simp <;> omega)) _) | (with_reducible refine bel_step ?_ (by assumption)) | (with_reducible refine bel_step ?_ (grown_none (by assumption)))))⟩
            case measure => first | (simp [intOf]; done) | (simp [intOf]; omega)
          | true =>
            go_upto_if 76 with fail
            go_cut [16] from 76 to 77 (fun v wx => ∃ lim : Int, v = .int .i64 lim ∧ 1 ≤ lim ∧ (k1 = 0 → lim = 100) ∧ Y2 = wx)
            case first =>
              by_cases q : k1 = 0
              · subst q
                go_wp2_with fail
                go_meet
                case rel => exact ⟨100, rfl, by omega, fun _ => rfl, rfl⟩
              · have qe : ((k1 : Int) == 0) = false := by simp; exact q
                go_wp2_with fail
                go_meet
                case rel => exact ⟨_, rfl, by omega, fun h => absurd h q, rfl⟩
            case rest =>
              obtain ⟨lim, rfl, hl1, hl2, hwx⟩ := hcut
              subst hwx
              obtain ⟨L, er, hf, her, hL1, hL2, hL3, hP3, hL4⟩ := once_fetch HP'.out (by omega) hl1
              obtain ⟨N, hN⟩ : ∃ N, L.length = N := ⟨_, rfl⟩
              rw [hN] at hL1 hL2 hP3 hL4
              have HF := Lib.hid hf
              have HN := Lib.hid hN
              have HL3 := Lib.hid hL3
              have HP3 := Lib.hid hP3
              have HE3 := Lib.hid (show k1 = 0 → got.length + N = want'.length from fun h => hL4 (hl2 h))
              have lN : N ≤ 12 := by omega
              have qg : decide ((N : Int) > lim) = false := decide_eq_false (by omega)
              clear hf hN hL3 hP3 hL4 hl2
              go_wp2_with fail
              refine (fetch_any A6 ts'.length c6 ts' B6 ls'.length d6 ls' ⟨#[109, 105, 108, 108]⟩ (got.length : Int) lim _ (HOY.out.bel (by repeat (first | exact Below.refl _ _ | with_reducible apply bel_drew | with_reducible apply bel_drewN | with_reducible apply bel_alloc | (with_reducible refine bel_set ?_ (by first | omega | (simp <;> omega)) _) | (with_reducible refine bel_step ?_ (by assumption)) | (with_reducible refine bel_step ?_ (grown_none (by assumption)))))).ot.rd (HOY.out.bel (by repeat (first | exact Below.refl _ _ | with_reducible apply bel_drew | with_reducible apply bel_drewN | with_reducible apply bel_alloc | (with_reducible refine bel_set ?_ (by first | omega | (simp <;> omega)) _) | (with_reducible refine bel_step ?_ (by assumption)) | (with_reducible refine bel_step ?_ (grown_none (by assumption)))))).ol.rd (by omega) (by omega)).mono ?_
              intro e w11 h
              obtain ⟨A11, c11, rfl, ho11, hb11⟩ := h.openN (N := N) HF.out HN.out
              have HO11 := Lib.hid (HOY.out.bel (w2 := w11) (by repeat (first | exact Below.refl _ _ | with_reducible apply bel_drew | with_reducible apply bel_drewN | with_reducible apply bel_alloc | (with_reducible refine bel_set ?_ (by first | omega | (simp <;> omega)) _) | (with_reducible refine bel_step ?_ (by assumption)) | (with_reducible refine bel_step ?_ (grown_none (by assumption))))))
              have p110 := HO11.out.c0; have p111 := HO11.out.c1; have p112 := HO11.out.fc0; have p113 := HO11.out.fc1; have p11t0 : w2.heap.size < w11.heap.size := HO11.out.sz; have p11t1 : w2.heap.size < w11.heap.size + 1 := (by omega)
              have HPG := Lib.hid (ho11.rd)
              have HPB := Lib.hid (fun k (hk : (Value.slice A11 N c11).ownBlock = some k) => (show Y2.heap.size ≤ k by have := (ho11.block k hk).1; (try simp at this); omega))
              have HGB := Lib.hid (fun k hk => (HOY.out.og.block k hk).2)
              clear h ho11 y0 y1 y2 y3 yz2 yz3 hb11
              go_upto_region 22 with fail
              go_cut [100] from 84 to 100 (fun v wx => v = .bool false ∧ w11 = wx)
              case first =>
                rcases her with rfl | ⟨rfl, hw0⟩
                · go_wp2_with fail
                  go_meet
                  case rel => exact ⟨rfl, rfl⟩
                · subst hw0
                  go_wp2_with fail
                  go_meet
                  case rel => exact ⟨rfl, rfl⟩
              case rest =>
                obtain ⟨rfl, hwx⟩ := hcut
                subst hwx
                have HG0 := Lib.hid (show want'.take got.length = got from HP'.out.gt.symm)
                clear her qg hL1
                go_wp2_with fail
                go_loopw [8, 9, 103] (fun gv nv iv wr => ∃ (i m : Nat) (Ag' : Option Addr) (cg' : Nat) (acc : List ByteArray), m = got.length + i ∧ acc = want'.take m ∧ gv = .slice Ag' acc.length cg' ∧ nv = .int .i64 (m : Nat) ∧ iv = .int .i64 (i : Nat) ∧ i ≤ N ∧ On w1 w2 g l A6 c6 ts' B6 d6 ls' A9 c9 want' Ag' cg' acc wr ∧ Rd dl wr (.slice A11 N c11) L ∧ (∀ k, (Value.slice Ag' acc.length cg').ownBlock = some k → (Value.slice A11 N c11).ownBlock ≠ some k)) (fun _ _ iv _ => N - (intOf iv).toNat)
                case atStart => exact ⟨0, got.length, Ag, cg, got, rfl, HG0.out.symm, rfl, rfl, rfl, by omega, HO11.out.bel (by repeat (first | exact Below.refl _ _ | with_reducible apply bel_drew | with_reducible apply bel_drewN | with_reducible apply bel_alloc | (with_reducible refine bel_set ?_ (by first | omega | (simp <;> omega)) _) | (with_reducible refine bel_step ?_ (by assumption)) | (with_reducible refine bel_step ?_ (grown_none (by assumption))))), HPG.out.below (by repeat (first | exact Below.refl _ _ | with_reducible apply bel_drew | with_reducible apply bel_drewN | with_reducible apply bel_alloc | (with_reducible refine bel_set ?_ (by first | omega | (simp <;> omega)) _) | (with_reducible refine bel_step ?_ (by assumption)) | (with_reducible refine bel_step ?_ (grown_none (by assumption))))), fun k hk e => by have := HPB.out k e; have := HGB.out k hk; omega⟩
                case round =>
                  obtain ⟨i, m, Ag', cg', acc, hm, hacc, rfl, rfl, rfl, hi, hon, hpg, hdj⟩ := hrel
                  have HM := Lib.hid hm
                  have HAC := Lib.hid hacc
                  have HO12 := Lib.hid hon
                  have HPG2 := Lib.hid hpg
                  have HDJ := Lib.hid hdj
                  have u0 := hon.c0
                  have u1 := hon.c1
                  have u2 := hon.fc0
                  have u3 := hon.fc1
                  have uz := hon.sz
                  have lm : m ≤ want'.length := by omega
                  have la : acc.length = m := by rw [hacc, List.length_take]; omega
                  have la2 : acc.length ≤ 13 := by omega
                  have HLA := Lib.hid la
                  have lm2 : m ≤ 13 := by omega
                  clear hm la hdj hon
                  by_cases hlt : i < N
                  · have qi : decide ((i : Int) < (N : Int)) = true := decide_eq_true (by omega)
                    obtain ⟨y, hy⟩ : ∃ y, L[i]? = some y := ⟨_, List.getElem?_eq_getElem (by have := HN.out; omega)⟩
                    obtain ⟨e1, e2, e3⟩ := HL3.out i y hy
                    rw [← HM.out] at e1 e3
                    have e4 : y.f0.toList = ([109, 105, 108, 108] : List UInt8) := e2.trans (by decide +kernel)
                    obtain ⟨gp, op, he, gl, d0, d1, d2⟩ : ∃ gp op, A11 = some ⟨gp, op, none⟩ ∧ gp < wr.heap.size ∧ wr.cell? ⟨gp, op + i * 3, none⟩ = some (.string y.f0) ∧ wr.cell? ⟨gp, op + i * 3 + 1, none⟩ = some (.int .i64 y.f1) ∧ wr.cell? ⟨gp, op + i * 3 + 2, none⟩ = some (.string y.f2) := by
                      obtain ⟨gh, oh, he, hlt', hcx⟩ := hpg.at_ hy
                      exact ⟨gh, oh, he, hlt', hcx 0 _ rfl, hcx 1 _ rfl, hcx 2 _ rfl⟩
                    rw [e1] at d1
                    have HT := Lib.hid (show acc ++ [y.f2] = want'.take (m + 1) from by
                      obtain ⟨g1, g2⟩ := List.getElem?_eq_some_iff.1 e3
                      rw [hacc, List.take_succ_eq_append_getElem g1, g2])
                    have wm : IntKind.i64.wrap ((m : Int) + 1) = ((m + 1 : Nat) : Int) := by rw [IntWalk.i64_in _ (by omega)]; omega
                    have wi : IntKind.i64.wrap ((i : Int) + 1) = ((i + 1 : Nat) : Int) := by rw [IntWalk.i64_in _ (by omega)]; omega
                    have gl1 : gp < wr.heap.size + 1 := by omega
                    have gl2 : gp < wr.heap.size + 1 + 1 := by omega
                    subst he
                    clear hy e1 e2 e3 hpg hacc
                    go_wp2_with (at_builtin; have t2 : Own ds 9 ((wr.alloc (.cells #[.string y.f0, .int .i64 (m : Int), .string y.f2] 41)).alloc (.cells #[.string y.f2] 9)) (w2.heap.size + 1) (.slice Ag' acc.length cg') acc := Ow.own_alloc (Ow.own_alloc HO12.out.og _) _; have t3 : Rd ds ((wr.alloc (.cells #[.string y.f0, .int .i64 (m : Int), .string y.f2] 41)).alloc (.cells #[.string y.f2] 9)) (.slice (some ⟨wr.heap.size + 1, 0, none⟩) 1 1) [y.f2] := rd_lit9 _ (by first | omega | (simp <;> omega)) (by go_simp); refine wpList_append_rd (d := ds) (v := .slice Ag' acc.length cg') (y := .slice (some ⟨wr.heap.size + 1, 0, none⟩) 1 1) (xs := acc) (ys := [y.f2]) rfl _ _ 31 rfl 9 i9 _ 16 (w2.heap.size + 1) Try.underlying31 hi9 hz9 hs9 hb9 rfl rfl t2 rfl t3 (by first | omega | (simp <;> omega)) (by unfold maxLen; simp <;> omega) (by first | omega | (simp <;> omega)) (acc ++ [y.f2]).length rfl ?_; clear t2 t3; intro A13 c13 w13 ho13 hg13 hat13; obtain ⟨acc', hacc'⟩ : ∃ a, a = acc ++ [y.f2] := ⟨_, rfl⟩; rw [← hacc'] at ho13 hat13 ⊢; have HACC := Lib.hid hacc'; have hon13 := On.gots (HO12.out.bel (w2 := (wr.alloc (.cells #[.string y.f0, .int .i64 (m : Int), .string y.f2] 41)).alloc (.cells #[.string y.f2] 9)) (by repeat (first | exact Below.refl _ _ | with_reducible apply bel_drew | with_reducible apply bel_drewN | with_reducible apply bel_alloc | (with_reducible refine bel_set ?_ (by first | omega | (simp <;> omega)) _) | (with_reducible refine bel_step ?_ (by assumption)) | (with_reducible refine bel_step ?_ (grown_none (by assumption)))))) hg hgw ho13 hg13 hat13; have HPG3 := Lib.hid (Rd.grown (HPG2.out.below (w' := (wr.alloc (.cells #[.string y.f0, .int .i64 (m : Int), .string y.f2] 41)).alloc (.cells #[.string y.f2] 9)) (by repeat (first | exact Below.refl _ _ | with_reducible apply bel_drew | with_reducible apply bel_drewN | with_reducible apply bel_alloc | (with_reducible refine bel_set ?_ (by first | omega | (simp <;> omega)) _) | (with_reducible refine bel_step ?_ (by assumption)) | (with_reducible refine bel_step ?_ (grown_none (by assumption)))))) hg13 (fun k hk e => HDJ.out k e hk)); have HDJ3 := Lib.hid (show ∀ k, (Value.slice A13 acc'.length c13).ownBlock = some k → (Value.slice (some ⟨gp, op, none⟩) N c11).ownBlock ≠ some k from block_at hat13 _ HDJ.out (fun e => by have := HPG2.out.block _ e; (try simp at this); omega)); have HO13 := Lib.hid hon13; have z1 : w2.heap.size < w13.heap.size := hon13.sz; have gz13 : wr.heap.size < w13.heap.size := (by have := hg13.size; (try simp at this); omega); clear hon13 ho13 hg13 hat13 hacc')
                    go_roundw
                    case rel => exact ⟨i + 1, m + 1, A13, c13, acc', by have := HM.out; omega, HT.out ▸ HACC.out, by first | rfl | simp, by first | rfl | go_num, by first | rfl | go_num, by omega, HO13.out.bel (by repeat (first | exact Below.refl _ _ | with_reducible apply bel_drew | with_reducible apply bel_drewN | with_reducible apply bel_alloc | (with_reducible refine bel_set ?_ (by first | omega | (simp <;> omega)) _) | (with_reducible refine bel_step ?_ (by assumption)) | (with_reducible refine bel_step ?_ (grown_none (by assumption))))), HPG3.out.below (by repeat (first | exact Below.refl _ _ | with_reducible apply bel_drew | with_reducible apply bel_drewN | with_reducible apply bel_alloc | (with_reducible refine bel_set ?_ (by first | omega | (simp <;> omega)) _) | (with_reducible refine bel_step ?_ (by assumption)) | (with_reducible refine bel_step ?_ (grown_none (by assumption))))), HDJ3.out⟩
                    case measure => first | (simp [intOf]; done) | (simp [intOf]; omega)
                  · have hiN : i = N := by omega
                    subst hiN
                    have qi : decide ((i : Int) < (i : Int)) = false := decide_eq_false (by omega)
                    have HP4 := Lib.hid (show OnceP (cc + 1) ts' ls' want' acc from by rw [HAC.out, HM.out]; exact HP3.out)
                    have HE4 := Lib.hid (show k1 = 0 → acc.length = want'.length from fun h => by rw [HLA.out, HM.out]; exact HE3.out h)
                    obtain rfl : acc.length = m := HLA.out
                    have ll2 : ls'.length ≤ 13 := by omega
                    clear hlt hacc hpg HPG HPG2 HDJ HM HAC HLA HP3 HE3 HL3 HN HF HOY HO11 p110 p111 p112 p113 p11t0 p11t1
                    have ut1 : w2.heap.size < wr.heap.size + 1 := by omega
                    go_wp2_with (first | (go_at_call 10; (with_reducible refine (next_on (HO12.out.bel (by repeat (first | exact Below.refl _ _ | with_reducible apply bel_drew | with_reducible apply bel_drewN | with_reducible apply bel_alloc | (with_reducible refine bel_set ?_ (by first | omega | (simp <;> omega)) _) | (with_reducible refine bel_step ?_ (by assumption)) | (with_reducible refine bel_step ?_ (grown_none (by assumption)))))) hg 2 (by omega) (by omega)).mono ?_); rintro e w14 ⟨r14, rfl, hon14, hz14⟩; (try simp at hz14); have p140 := hon14.c0; have p141 := hon14.c1; have p142 := hon14.fc0; have p143 := hon14.fc1; have p14t0 : w2.heap.size < w14.heap.size := hon14.sz; have p14t1 : w2.heap.size < w14.heap.size + 1 := (by omega); have HO14 := Lib.hid hon14; clear hon14; by_cases q : r14 = 0) | (go_at_call 15; (with_reducible refine (drop_any A6 ts'.length c6 ts' B6 ls'.length d6 ls' _ (HO14.out.bel (by repeat (first | exact Below.refl _ _ | with_reducible apply bel_drew | with_reducible apply bel_drewN | with_reducible apply bel_alloc | (with_reducible refine bel_set ?_ (by first | omega | (simp <;> omega)) _) | (with_reducible refine bel_step ?_ (by assumption)) | (with_reducible refine bel_step ?_ (grown_none (by assumption)))))).ot.rd (HO14.out.bel (by repeat (first | exact Below.refl _ _ | with_reducible apply bel_drew | with_reducible apply bel_drewN | with_reducible apply bel_alloc | (with_reducible refine bel_set ?_ (by first | omega | (simp <;> omega)) _) | (with_reducible refine bel_step ?_ (by assumption)) | (with_reducible refine bel_step ?_ (grown_none (by assumption)))))).ol.rd (by omega) (by omega) ⟨#[109, 105, 108, 108]⟩ (acc.length : Int)).mono ?_); intro e w15 h; obtain ⟨ks', hks⟩ : ∃ k, k = stay ⟨#[109, 105, 108, 108]⟩ acc.length ls' := ⟨_, rfl⟩; obtain ⟨A15, c15, B15, d15, rfl, ho15, hp15, hne15, hb15⟩ := h.open (ls := ks') hks.symm rfl rfl; have HKP := Lib.hid (show OnceP (cc + 1) ts' ks' want' acc from (by rw [hks]; exact once_drop HP4.out)); have hx15 := HO14.out.bel (w2 := w15) (by repeat (first | exact Below.refl _ _ | with_reducible apply bel_drew | with_reducible apply bel_drewN | with_reducible apply bel_alloc | (with_reducible refine bel_set ?_ (by first | omega | (simp <;> omega)) _) | (with_reducible refine bel_step ?_ (by assumption)) | (with_reducible refine bel_step ?_ (grown_none (by assumption))))); have x0 := hx15.c0; have x1 := hx15.c1; have x2 := hx15.fc0; have x3 := hx15.fc1; have xz := hx15.sz; have HO15 := Lib.hid (HO14.out.fill hg hgw hb15 ho15 hp15); clear h hks ho15 hp15 hne15 hb15 hx15))
                    all_goals
                      go_roundw
                      case rel => first | exact ⟨k1, cc + 1, A15, c15, ts', B15, d15, ks', A9, c9, want', Ag', cg', acc, rfl, rfl, rfl, by first | rfl | go_num, by omega, HE4.out, HKP.out, HO15.out.bel (by repeat (first | exact Below.refl _ _ | with_reducible apply bel_drew | with_reducible apply bel_drewN | with_reducible apply bel_alloc | (with_reducible refine bel_set ?_ (by first | omega | (simp <;> omega)) _) | (with_reducible refine bel_step ?_ (by assumption)) | (with_reducible refine bel_step ?_ (grown_none (by assumption)))))⟩ | exact ⟨k1, cc + 1, A6, c6, ts', B6, d6, ls', A9, c9, want', Ag', cg', acc, rfl, rfl, rfl, by first | rfl | go_num, by omega, HE4.out, HP4.out, HO14.out.bel (by repeat (first | exact Below.refl _ _ | with_reducible apply bel_drew | with_reducible apply bel_drewN | with_reducible apply bel_alloc | (with_reducible refine bel_set ?_ (by first | omega | (simp <;> omega)) _) | (with_reducible refine bel_step ?_ (by assumption)) | (with_reducible refine bel_step ?_ (grown_none (by assumption)))))⟩
                      case measure => first | (simp [intOf]; done) | (simp [intOf]; omega)
end Go.Proofs.Ytamkkpdhponhnaa.Nw
