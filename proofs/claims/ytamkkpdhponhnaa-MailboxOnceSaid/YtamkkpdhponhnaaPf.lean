/- Contract: fetching letters. -/
import Derived.Test.YtamkkpdhponhnaaPe
import Derived.LoopTactic
import Derived.Outline
import Derived.Deep.RegionLaw
namespace Go.Proofs.Ytamkkpdhponhnaa.Nw
open Go.RowKit Go.Proofs.Ytamkkpdhponhnaa.Ow Go.Proofs.Ytamkkpdhponhnaa.PMailboxAll Go.Proofs.YtamkkpdhponhnaaW.PrintWords
set_option linter.unusedVariables false
set_option linter.unusedSimpArgs false

theorem rd_lit41 {w : World} {b : Nat} (x : S41) (hb : b < w.heap.size) (h0 : w.cell? ⟨b, 0, none⟩ = some (.string x.f0)) (h1 : w.cell? ⟨b, 1, none⟩ = some (.int .i64 x.f1)) (h2 : w.cell? ⟨b, 2, none⟩ = some (.string x.f2)) :
    Rd dl w (.slice (some ⟨b, 0, none⟩) 1 1) [x] := by
  refine Or.inr ⟨b, 0, 1, rfl, Nat.le_refl _, by unfold maxLen; omega, hb, fun j u hj => ?_⟩
  match j, hj with
  | 0, hj => simp [flat, dl] at hj; subst hj; exact h0
  | 1, hj => simp [flat, dl] at hj; subst hj; exact h1
  | 2, hj => simp [flat, dl] at hj; subst hj; exact h2
  | j + 3, hj => simp [flat, dl] at hj
def fetchR (ts : List S56) (ls : List S41) (p : ByteArray) (fr most : Int) : List S41 × Int := if placeI ts p < 0 then ([], 55) else if most < 0 then ([], 2) else (fetchA p fr most ls, 0)
def FetchIs (w : World) (e : Ending) (w' : World) (r : List S41 × Int) : Prop := ∃ A c, e = .returned (.tuple #[.slice A r.1.length c, .int .i64 r.2]) ∧ Own dl 41 w' w.heap.size (.slice A r.1.length c) r.1 ∧ Below w.heap.size w w'

set_option maxHeartbeats 2000000 in
theorem fetch_any (A : Option Addr) (n c : Nat) (ts : List S56) (A' : Option Addr) (n' c' : Nat) (ls : List S41) (p : ByteArray) (fr most : Int) (w : World) (hr : Rd dt w (.slice A n c) ts) (hr' : Rd dl w (.slice A' n' c') ls) (hl : ts.length ≤ 1000000) (hl' : ls.length ≤ 1000000) :
    Calls Try.prog 14 #[.agg #[.slice A n c, .slice A' n' c'], .string p, .int .i64 fr, .int .i64 most] w fun e w' => FetchIs w e w' (fetchR ts ls p fr most) := by
  have hn := hr.len
  subst hn
  have hn' := hr'.len
  subst hn'
  obtain ⟨i0, hi, hz0, hs0, hz2⟩ := info_parts info41
  have H := Lib.hid (fun (W : World) (h : Below w.heap.size w W) => rd_step hr h)
  have H' := Lib.hid (fun (W : World) (h : Below w.heap.size w W) => rd_step hr' h)
  clear hr hr'
  have HR : Hid (fetchR ts ls p fr most = if placeI ts p < 0 then ([], 55) else if most < 0 then ([], 2) else (fetchA p fr most ls, 0)) := Lib.hid rfl
  generalize fetchR ts ls p fr most = R at HR
  go_enter Try.func14, Try.ntmps14
  go_wp2_with fail
  refine (find_any A ts.length c ts (.slice A' ls.length c') p _ (H.out _ (by repeat (first | exact Below.refl _ _ | with_reducible apply bel_drew | with_reducible apply bel_drewN | with_reducible apply bel_alloc | (with_reducible refine bel_set ?_ (by first | omega | (simp <;> omega)) _) | (with_reducible refine bel_step ?_ (by assumption)) | (with_reducible refine bel_step ?_ (grown_none (by assumption)))))) hl).mono ?_
  rintro e w0 ⟨rfl, hb0⟩
  have hzk := hb0.size; (try simp at hzk); obtain ⟨hck, hfk⟩ := bcell hb0; have k0 : w0.cell? ⟨w.heap.size, 0, none⟩ = some (.slice A ts.length c) := (hck _ _ (by first | omega | (simp <;> omega))).trans (by go_simp); have k1 : w0.cell? ⟨w.heap.size, 1, none⟩ = some (.slice A' ls.length c') := (hck _ _ (by first | omega | (simp <;> omega))).trans (by go_simp); have kt0 : w.heap.size < w0.heap.size := (by omega); have kt1 : w.heap.size < w0.heap.size + 1 := (by omega); clear hck hfk
  by_cases hp : placeI ts p < 0
  · have hpd : decide (placeI ts p < 0) = true := decide_eq_true hp
    have hR : R = ([], 55) := by rw [HR.out, if_pos hp]
    subst hR
    go_wp2
    refine bodyPost_ret (v := .tuple #[.slice none 0 0, .int .i64 55]) (by simp [results, Try.results14, go_sem, *]) rfl ⟨none, 0, rfl, Own.nil _ _ _ _, (by repeat (first | exact Below.refl _ _ | with_reducible apply bel_drew | with_reducible apply bel_drewN | with_reducible apply bel_alloc | (with_reducible refine bel_set ?_ (by first | omega | (simp <;> omega)) _) | (with_reducible refine bel_step ?_ (by assumption)) | (with_reducible refine bel_step ?_ (grown_none (by assumption)))))⟩
  · have hpd : decide (placeI ts p < 0) = false := decide_eq_false hp
    by_cases hm : most < 0
    · have hmd : decide (most < 0) = true := decide_eq_true hm
      have hR : R = ([], 2) := by rw [HR.out, if_neg hp, if_pos hm]
      subst hR
      go_wp2
      refine bodyPost_ret (v := .tuple #[.slice none 0 0, .int .i64 2]) (by simp [results, Try.results14, go_sem, *]) rfl ⟨none, 0, rfl, Own.nil _ _ _ _, (by repeat (first | exact Below.refl _ _ | with_reducible apply bel_drew | with_reducible apply bel_drewN | with_reducible apply bel_alloc | (with_reducible refine bel_set ?_ (by first | omega | (simp <;> omega)) _) | (with_reducible refine bel_step ?_ (by assumption)) | (with_reducible refine bel_step ?_ (grown_none (by assumption)))))⟩
    · have hmd : decide (most < 0) = false := decide_eq_false hm
      have hR : R = (fetchA p fr most ls, 0) := by rw [HR.out, if_neg hp, if_neg hm]
      subst hR
      clear HR
      go_wp2_with (go_at_call 30; refine (of_any p fr (.func (.func 31) #[] #[]) rfl _).mono ?_; rintro e w1 ⟨rfl, hb1, hs1, d0, d1, d2⟩; have hzm := hb1.size; (try simp at hzm); obtain ⟨hcm, hfm⟩ := bcell hb1; have m0 : w1.cell? ⟨w.heap.size, 0, none⟩ = some (.slice A ts.length c) := (hcm _ _ (by first | omega | (simp <;> omega))).trans (by go_simp); have m1 : w1.cell? ⟨w.heap.size, 1, none⟩ = some (.slice A' ls.length c') := (hcm _ _ (by first | omega | (simp <;> omega))).trans (by go_simp); have mt0 : w.heap.size < w1.heap.size := (by omega); have mt1 : w.heap.size < w1.heap.size + 1 := (by omega); clear hcm hfm; have hs4 : w0.heap.size + 3 ≤ w1.heap.size := (by omega); clear hs1)
      go_loopw [10, 28] (fun v i wr => ∃ (j : Nat) (Aa : Option Addr) (ca : Nat), j ≤ ls.length ∧ i = .int .i64 j ∧ v = .slice Aa (fetchA p fr most (ls.take j)).length ca ∧ Below w1.heap.size w1 wr ∧ Own dl 41 wr w1.heap.size (.slice Aa (fetchA p fr most (ls.take j)).length ca) (fetchA p fr most (ls.take j))) (fun _ i _ => ls.length - (intOf i).toNat)
      case atStart => exact ⟨0, none, 0, by omega, rfl, rfl, (by repeat (first | exact Below.refl _ _ | with_reducible apply bel_drew | with_reducible apply bel_drewN | with_reducible apply bel_alloc | (with_reducible refine bel_set ?_ (by first | omega | (simp <;> omega)) _) | (with_reducible refine bel_step ?_ (by assumption)) | (with_reducible refine bel_step ?_ (grown_none (by assumption))))), Own.nil _ _ _ _⟩
      case round =>
        obtain ⟨j, Aa, ca, hj, rfl, rfl, hbw, hoA⟩ := hrel
        have hzw := hbw.size
        by_cases hlt : j < ls.length
        · obtain ⟨l, ht⟩ : ∃ l, ls[j]? = some l := ⟨_, List.getElem?_eq_getElem hlt⟩
          obtain ⟨g, o, he, gl, c0, c1, c2⟩ : ∃ g o, A' = some ⟨g, o, none⟩ ∧ g < wr.heap.size ∧ wr.cell? ⟨g, o + j * 3, none⟩ = some (.string l.f0) ∧ wr.cell? ⟨g, o + j * 3 + 1, none⟩ = some (.int .i64 l.f1) ∧ wr.cell? ⟨g, o + j * 3 + 2, none⟩ = some (.string l.f2) := by
            obtain ⟨gh, oh, he, hlt', hcx⟩ := (H'.out wr (bel_step (by repeat (first | exact Below.refl _ _ | with_reducible apply bel_drew | with_reducible apply bel_drewN | with_reducible apply bel_alloc | (with_reducible refine bel_set ?_ (by first | omega | (simp <;> omega)) _) | (with_reducible refine bel_step ?_ (by assumption)) | (with_reducible refine bel_step ?_ (grown_none (by assumption))))) hbw)).at_ ht
            exact ⟨gh, oh, he, hlt', hcx 0 _ rfl, hcx 1 _ rfl, hcx 2 _ rfl⟩
          subst he
          have gl1 : g < wr.heap.size + 1 := by omega
          have e0 : wr.cell? ⟨w0.heap.size, 0, none⟩ = some (.string p) := ((bcell hbw).1 _ _ (by omega)).trans d0
          have e1 : wr.cell? ⟨w0.heap.size + 1, 0, none⟩ = some (.int .i64 fr) := ((bcell hbw).1 _ _ (by omega)).trans d1
          have e2 : wr.cell? ⟨w0.heap.size + 2, 0, none⟩ = some (.func (.func 31) #[] #[]) := ((bcell hbw).1 _ _ (by omega)).trans d2
          have z1 : w0.heap.size < wr.heap.size := by omega
          have z2 : w0.heap.size + 1 < wr.heap.size := by omega
          have z3 : w0.heap.size + 2 < wr.heap.size := by omega
          have hcs := fetchA_succ p fr most ht
          have hcb : (fetchA p fr most (ls.take j)).length ≤ 1000000 := by
            have h1 := fetchA_bd p fr most (ls.take j)
            rw [List.length_take] at h1
            omega
          generalize fetchA p fr most (ls.take j) = acc at hcs hcb hoA ⊢
          have HOA := Lib.hid hoA
          have HS := Lib.hid hcs
          clear hcs hoA ht
          by_cases hlm : (acc.length : Int) < most
          · have hld : decide ((acc.length : Int) < most) = true := decide_eq_true hlm
            by_cases hq : wantA p fr l = true
            · have HQ : Hid (fetchA p fr most (ls.take (j + 1)) = acc ++ [l]) := Lib.hid (by rw [HS.out]; unfold fetchS; rw [if_pos ⟨hlm, hq⟩])
              have hqw := Lib.hid hq
              clear hq HS hlm
              go_wp2_with (first | (go_at_call 43; refine (of1_any l w0.heap.size (w0.heap.size + 1) (w0.heap.size + 2) p fr _ (by first | omega | (simp <;> omega)) (by first | omega | (simp <;> omega)) (by first | omega | (simp <;> omega)) (by go_simp) (by go_simp) (by go_simp)).mono ?_; rintro e w2 ⟨rfl, hb2⟩; rw [hqw.out]; have hzy := hb2.size; (try simp at hzy); obtain ⟨hcy, hfy⟩ := bcell hb2; have y0 : w2.cell? ⟨wr.heap.size, 0, none⟩ = some (.string l.f0) := (hcy _ _ (by first | omega | (simp <;> omega))).trans (by go_simp); have y1 : w2.cell? ⟨wr.heap.size, 1, none⟩ = some (.int .i64 l.f1) := (hcy _ _ (by first | omega | (simp <;> omega))).trans (by go_simp); have y2 : w2.cell? ⟨wr.heap.size, 2, none⟩ = some (.string l.f2) := (hcy _ _ (by first | omega | (simp <;> omega))).trans (by go_simp); have yt0 : wr.heap.size < w2.heap.size := (by omega); have yt1 : wr.heap.size < w2.heap.size + 1 := (by omega); clear hcy hfy) | (at_builtin; refine wpList_append_rd (d := dl) (v := .slice Aa acc.length ca) (y := .slice (some ⟨w2.heap.size, 0, none⟩) 1 1) (xs := acc) (ys := [l]) rfl _ _ 28 rfl 41 i0 _ 40 w1.heap.size Try.underlying28 hi hz0 hs0 hz2 rfl rfl (HOA.out.below (by repeat (first | exact Below.refl _ _ | with_reducible apply bel_drew | with_reducible apply bel_drewN | with_reducible apply bel_alloc | (with_reducible refine bel_set ?_ (by first | omega | (simp <;> omega)) _) | (with_reducible refine bel_step ?_ (by assumption)) | (with_reducible refine bel_step ?_ (grown_none (by assumption)))))) rfl (rd_lit41 _ (by first | omega | (simp <;> omega)) (by go_simp) (by go_simp) (by go_simp)) (by simp <;> omega) (by unfold maxLen; simp <;> omega) (by first | omega | (simp <;> omega)) (acc.length + 1) (by simp) ?_; intro A3 c3 w5 ho3 hg3 hat3; have hb5 := bel_grown (W := w1) (bel_step hbw (by repeat (first | exact Below.refl _ _ | with_reducible apply bel_drew | with_reducible apply bel_drewN | with_reducible apply bel_alloc | (with_reducible refine bel_set ?_ (by first | omega | (simp <;> omega)) _) | (with_reducible refine bel_step ?_ (by assumption)) | (with_reducible refine bel_step ?_ (grown_none (by assumption)))))) hg3 (fun k hk => (HOA.out.block k hk).1); clear hat3 hg3; have HO3 := Lib.hid ho3; clear ho3))
              go_roundw
              case rel => exact ⟨j + 1, A3, c3, by omega, by go_num, by rw [HQ.out, List.length_append]; rfl, (by repeat (first | exact hb5 | exact Below.refl _ _ | with_reducible apply bel_drew | with_reducible apply bel_drewN | with_reducible apply bel_alloc | (with_reducible refine bel_set ?_ (by first | omega | (simp <;> omega)) _) | (with_reducible refine bel_step ?_ (by assumption)) | (with_reducible refine bel_step ?_ (grown_none (by assumption))))), by rw [HQ.out, List.length_append]; exact HO3.out⟩
              case measure => simp [intOf]; omega
            · have hq' : wantA p fr l = false := by simpa using hq
              have HQ : Hid (fetchA p fr most (ls.take (j + 1)) = acc) := Lib.hid (by rw [HS.out]; unfold fetchS; rw [if_neg (fun h => hq h.2)])
              have hqw := Lib.hid hq'
              clear hq hq' HS hlm
              go_wp2_with (first | (go_at_call 43; refine (of1_any l w0.heap.size (w0.heap.size + 1) (w0.heap.size + 2) p fr _ (by first | omega | (simp <;> omega)) (by first | omega | (simp <;> omega)) (by first | omega | (simp <;> omega)) (by go_simp) (by go_simp) (by go_simp)).mono ?_; rintro e w2 ⟨rfl, hb2⟩; rw [hqw.out]; have hzy := hb2.size; (try simp at hzy); obtain ⟨hcy, hfy⟩ := bcell hb2; have y0 : w2.cell? ⟨wr.heap.size, 0, none⟩ = some (.string l.f0) := (hcy _ _ (by first | omega | (simp <;> omega))).trans (by go_simp); have y1 : w2.cell? ⟨wr.heap.size, 1, none⟩ = some (.int .i64 l.f1) := (hcy _ _ (by first | omega | (simp <;> omega))).trans (by go_simp); have y2 : w2.cell? ⟨wr.heap.size, 2, none⟩ = some (.string l.f2) := (hcy _ _ (by first | omega | (simp <;> omega))).trans (by go_simp); have yt0 : wr.heap.size < w2.heap.size := (by omega); have yt1 : wr.heap.size < w2.heap.size + 1 := (by omega); clear hcy hfy))
              go_roundw
              case rel => exact ⟨j + 1, Aa, ca, by omega, by go_num, by rw [HQ.out], bel_step hbw (by repeat (first | exact Below.refl _ _ | with_reducible apply bel_drew | with_reducible apply bel_drewN | with_reducible apply bel_alloc | (with_reducible refine bel_set ?_ (by first | omega | (simp <;> omega)) _) | (with_reducible refine bel_step ?_ (by assumption)) | (with_reducible refine bel_step ?_ (grown_none (by assumption))))), by rw [HQ.out]; exact HOA.out.below (by repeat (first | exact Below.refl _ _ | with_reducible apply bel_drew | with_reducible apply bel_drewN | with_reducible apply bel_alloc | (with_reducible refine bel_set ?_ (by first | omega | (simp <;> omega)) _) | (with_reducible refine bel_step ?_ (by assumption)) | (with_reducible refine bel_step ?_ (grown_none (by assumption)))))⟩
              case measure => simp [intOf]; omega
          · have hld : decide ((acc.length : Int) < most) = false := decide_eq_false hlm
            have HQ : Hid (fetchA p fr most (ls.take (j + 1)) = acc) := Lib.hid (by rw [HS.out]; unfold fetchS; rw [if_neg (fun h => hlm h.1)])
            clear HS hlm
            go_wp2_with fail
            go_roundw
            case rel => exact ⟨j + 1, Aa, ca, by omega, by go_num, by rw [HQ.out], bel_step hbw (by repeat (first | exact Below.refl _ _ | with_reducible apply bel_drew | with_reducible apply bel_drewN | with_reducible apply bel_alloc | (with_reducible refine bel_set ?_ (by first | omega | (simp <;> omega)) _) | (with_reducible refine bel_step ?_ (by assumption)) | (with_reducible refine bel_step ?_ (grown_none (by assumption))))), by rw [HQ.out]; exact HOA.out.below (by repeat (first | exact Below.refl _ _ | with_reducible apply bel_drew | with_reducible apply bel_drewN | with_reducible apply bel_alloc | (with_reducible refine bel_set ?_ (by first | omega | (simp <;> omega)) _) | (with_reducible refine bel_step ?_ (by assumption)) | (with_reducible refine bel_step ?_ (grown_none (by assumption)))))⟩
            case measure => simp [intOf]; omega
        · obtain rfl : j = ls.length := by omega
          rw [List.take_length] at hoA ⊢
          have HOA := Lib.hid hoA
          have hz01 : w.heap.size ≤ w1.heap.size := by omega
          clear hoA
          go_wp2
          refine bodyPost_ret (v := .tuple #[.slice Aa (fetchA p fr most ls).length ca, .int .i64 0]) (by simp [results, Try.results14, go_sem, *]) rfl ⟨Aa, ca, rfl, HOA.out.lower hz01, bel_step (bel_step (bel_step (bel_alloc (Below.refl _ _) _) hb0) hb1) hbw⟩
end Go.Proofs.Ytamkkpdhponhnaa.Nw
