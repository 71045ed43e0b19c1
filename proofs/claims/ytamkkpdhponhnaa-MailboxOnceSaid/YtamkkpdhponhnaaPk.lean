/- Contract: the document's Drop. -/
import Derived.Test.YtamkkpdhponhnaaPj
import Derived.LoopTactic
import Derived.Outline
import Derived.Deep.RegionLaw
namespace Go.Proofs.Ytamkkpdhponhnaa.Nw
open Go.RowKit Go.Proofs.Ytamkkpdhponhnaa.Ow Go.Proofs.Ytamkkpdhponhnaa.PMailboxAll Go.Proofs.YtamkkpdhponhnaaW.PrintWords
set_option linter.unusedVariables false
set_option linter.unusedSimpArgs false

def keepR (p : ByteArray) (bl : Int) (l : S41) : Bool := decide (l.f0.toList ≠ p.toList ∨ bl ≤ l.f1)
theorem keep_yes {f : S41 → Bool} {ls : List S41} {j : Nat} {v : S41} (h : ls[j]? = some v) (hf : f v = true) : (ls.take (j + 1)).filter f = (ls.take j).filter f ++ [v] := by
  obtain ⟨h1, h2⟩ := List.getElem?_eq_some_iff.1 h
  rw [List.take_succ_eq_append_getElem h1, h2, List.filter_append]
  simp [List.filter, hf]
theorem keep_no {f : S41 → Bool} {ls : List S41} {j : Nat} {v : S41} (h : ls[j]? = some v) (hf : f v = false) : (ls.take (j + 1)).filter f = (ls.take j).filter f := by
  obtain ⟨h1, h2⟩ := List.getElem?_eq_some_iff.1 h
  rw [List.take_succ_eq_append_getElem h1, h2, List.filter_append]
  simp [List.filter, hf]
def DropI (w1 : World) (A1 : Option Addr) (c1 : Nat) (ts : List S56) (acc : List S41) (wr : World) : Prop :=
  ∃ Aa ca, Below w1.heap.size w1 wr ∧ w1.heap.size < wr.heap.size ∧ wr.cell? ⟨w1.heap.size, 0, none⟩ = some (.slice A1 ts.length c1) ∧ wr.cell? ⟨w1.heap.size, 1, none⟩ = some (.slice Aa acc.length ca) ∧ wr.frozen? ⟨w1.heap.size, 0, none⟩ = false ∧ wr.frozen? ⟨w1.heap.size, 1, none⟩ = false ∧
    Own dl 41 wr (w1.heap.size + 1) (.slice Aa acc.length ca) acc
set_option maxHeartbeats 4000000 in
theorem drop_ref (A : Option Addr) (n c : Nat) (ts : List S56) (A' : Option Addr) (n' c' : Nat) (ls : List S41) (w : World) (hr : Rd dt w (.slice A n c) ts) (hr' : Rd dl w (.slice A' n' c') ls) (hl : ts.length ≤ 1000) (hl' : ls.length ≤ 1000) (p : ByteArray) (bl : Int) :
    Calls Try.prog 24 #[.agg #[.slice A n c, .slice A' n' c'], .string p, .int .i64 bl] w fun e w' => MbIs w.heap.size w e w' ts (ls.filter (keepR p bl)) := by
  have hn' := hr'.len
  subst hn'
  obtain ⟨i0, hi, hz0, hs0, hz2⟩ := info_parts info41
  have H := Lib.hid (fun (W : World) (hb : Below w.heap.size w W) => rd_step hr hb)
  have H' := Lib.hid (fun (W : World) (hb : Below w.heap.size w W) => rd_step hr' hb)
  clear hr hr'
  go_enter Try.func24, Try.ntmps24
  go_wp2_with fail
  refine (copyOf_any A n c ts A' ls.length c' ls _ (H.out _ (by repeat (first | exact Below.refl _ _ | with_reducible apply bel_drew | with_reducible apply bel_drewN | with_reducible apply bel_alloc | (with_reducible refine bel_set ?_ (by first | omega | (simp <;> omega)) _) | (with_reducible refine bel_step ?_ (by assumption)) | (with_reducible refine bel_step ?_ (grown_none (by assumption)))))) (H'.out _ (by repeat (first | exact Below.refl _ _ | with_reducible apply bel_drew | with_reducible apply bel_drewN | with_reducible apply bel_alloc | (with_reducible refine bel_set ?_ (by first | omega | (simp <;> omega)) _) | (with_reducible refine bel_step ?_ (by assumption)) | (with_reducible refine bel_step ?_ (grown_none (by assumption)))))) hl hl').mono ?_
  rintro e w1 ⟨A1, c1, A2, c2, rfl, ho1, ho2, hne, hb1⟩
  have hzk := hb1.size; (try simp at hzk); obtain ⟨hck, hfk⟩ := bcell hb1; have k0 : w1.cell? ⟨w.heap.size, 0, none⟩ = some (.slice A n c) := (hck _ _ (by first | omega | (simp <;> omega))).trans (by go_simp); have k1 : w1.cell? ⟨w.heap.size, 1, none⟩ = some (.slice A' ls.length c') := (hck _ _ (by first | omega | (simp <;> omega))).trans (by go_simp); have k2 : w1.cell? ⟨w.heap.size + 1, 0, none⟩ = some (.slice none 0 0) := (hck _ _ (by first | omega | (simp <;> omega))).trans (by go_simp); have kf2 : w1.frozen? ⟨w.heap.size + 1, 0, none⟩ = false := (hfk _ _ (by first | omega | (simp <;> omega))).trans (by go_simp); have k3 : w1.cell? ⟨w.heap.size + 1, 1, none⟩ = some (.slice none 0 0) := (hck _ _ (by first | omega | (simp <;> omega))).trans (by go_simp); have kf3 : w1.frozen? ⟨w.heap.size + 1, 1, none⟩ = false := (hfk _ _ (by first | omega | (simp <;> omega))).trans (by go_simp); have kt0 : w.heap.size < w1.heap.size := (by omega); have kt1 : w.heap.size < w1.heap.size + 1 := (by omega); have kt2 : w.heap.size + 1 < w1.heap.size := (by omega); have kt3 : w.heap.size + 1 < w1.heap.size + 1 := (by omega); clear hck hfk
  have HO1 := Lib.hid (ho1.lower (B' := w.heap.size + 2) (by first | omega | (simp <;> omega)))
  have HW1 : Below w.heap.size w w1 := bel_step (by repeat (first | exact Below.refl _ _ | with_reducible apply bel_drew | with_reducible apply bel_drewN | with_reducible apply bel_alloc | (with_reducible refine bel_set ?_ (by first | omega | (simp <;> omega)) _) | (with_reducible refine bel_step ?_ (by assumption)) | (with_reducible refine bel_step ?_ (grown_none (by assumption))))) hb1
  clear ho1 ho2 hne
  go_wp2_with fail
  go_loopw [16] (fun i wr => ∃ j : Nat, j ≤ ls.length ∧ i = .int .i64 j ∧ DropI w1 A1 c1 ts ((ls.take j).filter (keepR p bl)) wr) (fun i _ => ls.length - (intOf i).toNat)
  case atStart => exact ⟨0, by omega, rfl, none, 0, (by repeat (first | exact Below.refl _ _ | with_reducible apply bel_drew | with_reducible apply bel_drewN | with_reducible apply bel_alloc | (with_reducible refine bel_set ?_ (by first | omega | (simp <;> omega)) _) | (with_reducible refine bel_step ?_ (by assumption)) | (with_reducible refine bel_step ?_ (grown_none (by assumption))))), by simp, by go_simp, by go_simp, by go_simp, by go_simp, Own.nil _ _ _ _⟩
  case round =>
    obtain ⟨j, hj, rfl, Aa, ca, hbw, hlt1, r0, r1, rf0, rf1, hoA⟩ := hrel
    have hzw := hbw.size
    by_cases hlt : j < ls.length
    · obtain ⟨l, ht⟩ : ∃ l, ls[j]? = some l := ⟨_, List.getElem?_eq_getElem hlt⟩
      obtain ⟨g, o, he, gl, c0, c1', c2'⟩ : ∃ g o, A' = some ⟨g, o, none⟩ ∧ g < wr.heap.size ∧ wr.cell? ⟨g, o + j * 3, none⟩ = some (.string l.f0) ∧ wr.cell? ⟨g, o + j * 3 + 1, none⟩ = some (.int .i64 l.f1) ∧ wr.cell? ⟨g, o + j * 3 + 2, none⟩ = some (.string l.f2) := by
        obtain ⟨gh, oh, he, hlt', hcx⟩ := (H'.out wr (bel_step HW1 hbw)).at_ ht
        exact ⟨gh, oh, he, hlt', hcx 0 _ rfl, hcx 1 _ rfl, hcx 2 _ rfl⟩
      subst he
      have gl1 : g < wr.heap.size + 1 := by omega
      have hl1 : w1.heap.size < wr.heap.size + 1 := by omega
      have hl2 : w1.heap.size < wr.heap.size + 1 + 1 := by omega
      have hcb : ((ls.take j).filter (keepR p bl)).length ≤ 1000 := by
        have h1 := List.length_filter_le (keepR p bl) (ls.take j)
        rw [List.length_take] at h1
        omega
      have HY := Lib.hid (fun h => keep_yes (f := keepR p bl) ht h)
      have HN := Lib.hid (fun h => keep_no (f := keepR p bl) ht h)
      generalize (ls.take j).filter (keepR p bl) = acc at hcb hoA r1 HY HN
      have HOA := Lib.hid hoA
      clear hoA ht
      by_cases q : l.f0.toList = p.toList
      · have qb : (l.f0.toList != p.toList) = false := by rw [bne_eq_false_iff_eq]; exact q
        by_cases q2 : bl ≤ l.f1
        · have qc : decide (l.f1 ≥ bl) = true := decide_eq_true q2
          have HQ := Lib.hid (HY.out (decide_eq_true (Or.inr q2)))
          clear HY HN q2
          go_wp2_with (at_builtin; refine wpList_append_rd (d := dl) (v := .slice Aa acc.length ca) (y := .slice (some ⟨wr.heap.size + 1, 0, none⟩) 1 1) (xs := acc) (ys := [l]) rfl _ _ 28 rfl 41 i0 _ 40 (w1.heap.size + 1) Try.underlying28 hi hz0 hs0 hz2 rfl rfl (HOA.out.below (by repeat (first | exact Below.refl _ _ | with_reducible apply bel_drew | with_reducible apply bel_drewN | with_reducible apply bel_alloc | (with_reducible refine bel_set ?_ (by first | omega | (simp <;> omega)) _) | (with_reducible refine bel_step ?_ (by assumption)) | (with_reducible refine bel_step ?_ (grown_none (by assumption)))))) rfl (rd_lit41 _ (by first | omega | (simp <;> omega)) (by go_simp) (by go_simp) (by go_simp)) (by simp <;> omega) (by unfold maxLen; simp <;> omega) (by first | omega | (simp <;> omega)) (acc.length + 1) (by simp) ?_; intro A3 c3 w5 ho3 hg3 hat3; have hz5 := hg3.size; (try simp at hz5); have hb5 := bel_grown (W := w1) (bel_step hbw (by repeat (first | exact Below.refl _ _ | with_reducible apply bel_drew | with_reducible apply bel_drewN | with_reducible apply bel_alloc | (with_reducible refine bel_set ?_ (by first | omega | (simp <;> omega)) _) | (with_reducible refine bel_step ?_ (by assumption)) | (with_reducible refine bel_step ?_ (grown_none (by assumption)))))) hg3 (fun k hk => by have := (HOA.out.block k hk).1; omega); have y0 : w5.cell? ⟨w1.heap.size, 0, none⟩ = some (.slice A1 ts.length c1) := ((grown_cell hg3 (by first | omega | (simp <;> omega)) (fun e => by have := (HOA.out.block _ e).1; omega)).1 _).trans (by go_simp); have y1 : w5.cell? ⟨w1.heap.size, 1, none⟩ = some (.slice Aa acc.length ca) := ((grown_cell hg3 (by first | omega | (simp <;> omega)) (fun e => by have := (HOA.out.block _ e).1; omega)).1 _).trans (by go_simp); have yf0 : w5.frozen? ⟨w1.heap.size, 0, none⟩ = false := ((grown_cell hg3 (by first | omega | (simp <;> omega)) (fun e => by have := (HOA.out.block _ e).1; omega)).2 _).trans (by go_simp); have yf1 : w5.frozen? ⟨w1.heap.size, 1, none⟩ = false := ((grown_cell hg3 (by first | omega | (simp <;> omega)) (fun e => by have := (HOA.out.block _ e).1; omega)).2 _).trans (by go_simp); have yt : w1.heap.size < w5.heap.size := (by omega); clear hat3 hg3; have HO3 := Lib.hid ho3; clear ho3)
          go_roundw
          case rel =>
            refine ⟨j + 1, by omega, by go_num, A3, c3, (by repeat (first | exact hb5 | exact Below.refl _ _ | with_reducible apply bel_drew | with_reducible apply bel_drewN | with_reducible apply bel_alloc | (with_reducible refine bel_set ?_ (by first | omega | (simp <;> omega)) _) | (with_reducible refine bel_step ?_ (by assumption)) | (with_reducible refine bel_step ?_ (grown_none (by assumption))))), (by first | omega | (simp <;> omega)), by go_simp, ?_, by go_simp, by go_simp, ?_⟩
            · rw [HQ.out, List.length_append]; go_simp
            · rw [HQ.out, List.length_append]; show Own dl 41 _ _ (.slice A3 (acc.length + 1) c3) _; exact (by (repeat (first | (with_reducible refine Own.setCell ?_ (fun k hk => by have := HO3.out.block k hk; simp <;> omega) _) | (with_reducible refine own_alloc ?_ _) | (with_reducible refine own_drew ?_) | (with_reducible refine own_drewN ?_ _))); exact HO3.out)
          case measure => simp [intOf]; omega
        · have qc : decide (l.f1 ≥ bl) = false := decide_eq_false q2
          have HQ := Lib.hid (HN.out (decide_eq_false (fun h => h.elim (fun h => h q) q2)))
          clear HY HN q2
          go_wp2_with fail
          go_roundw
          case rel => exact ⟨j + 1, by omega, by go_num, Aa, ca, (by repeat (first | exact hbw | exact Below.refl _ _ | with_reducible apply bel_drew | with_reducible apply bel_drewN | with_reducible apply bel_alloc | (with_reducible refine bel_set ?_ (by first | omega | (simp <;> omega)) _) | (with_reducible refine bel_step ?_ (by assumption)) | (with_reducible refine bel_step ?_ (grown_none (by assumption))))), (by first | omega | (simp <;> omega)), by go_simp, by rw [HQ.out]; go_simp, by go_simp, by go_simp, by rw [HQ.out]; exact HOA.out.below (by repeat (first | exact Below.refl _ _ | with_reducible apply bel_drew | with_reducible apply bel_drewN | with_reducible apply bel_alloc | (with_reducible refine bel_set ?_ (by first | omega | (simp <;> omega)) _) | (with_reducible refine bel_step ?_ (by assumption)) | (with_reducible refine bel_step ?_ (grown_none (by assumption)))))⟩
          case measure => simp [intOf]; omega
      · have qb : (l.f0.toList != p.toList) = true := by rw [bne_iff_ne]; exact q
        have qe : (l.f0.toList == p.toList) = false := beq_eq_false_iff_ne.2 q
        have HQ := Lib.hid (HY.out (decide_eq_true (Or.inl q)))
        clear HY HN
        · skip
          go_wp2_with (at_builtin; refine wpList_append_rd (d := dl) (v := .slice Aa acc.length ca) (y := .slice (some ⟨wr.heap.size + 1, 0, none⟩) 1 1) (xs := acc) (ys := [l]) rfl _ _ 28 rfl 41 i0 _ 40 (w1.heap.size + 1) Try.underlying28 hi hz0 hs0 hz2 rfl rfl (HOA.out.below (by repeat (first | exact Below.refl _ _ | with_reducible apply bel_drew | with_reducible apply bel_drewN | with_reducible apply bel_alloc | (with_reducible refine bel_set ?_ (by first | omega | (simp <;> omega)) _) | (with_reducible refine bel_step ?_ (by assumption)) | (with_reducible refine bel_step ?_ (grown_none (by assumption)))))) rfl (rd_lit41 _ (by first | omega | (simp <;> omega)) (by go_simp) (by go_simp) (by go_simp)) (by simp <;> omega) (by unfold maxLen; simp <;> omega) (by first | omega | (simp <;> omega)) (acc.length + 1) (by simp) ?_; intro A3 c3 w5 ho3 hg3 hat3; have hz5 := hg3.size; (try simp at hz5); have hb5 := bel_grown (W := w1) (bel_step hbw (by repeat (first | exact Below.refl _ _ | with_reducible apply bel_drew | with_reducible apply bel_drewN | with_reducible apply bel_alloc | (with_reducible refine bel_set ?_ (by first | omega | (simp <;> omega)) _) | (with_reducible refine bel_step ?_ (by assumption)) | (with_reducible refine bel_step ?_ (grown_none (by assumption)))))) hg3 (fun k hk => by have := (HOA.out.block k hk).1; omega); have y0 : w5.cell? ⟨w1.heap.size, 0, none⟩ = some (.slice A1 ts.length c1) := ((grown_cell hg3 (by first | omega | (simp <;> omega)) (fun e => by have := (HOA.out.block _ e).1; omega)).1 _).trans (by go_simp); have y1 : w5.cell? ⟨w1.heap.size, 1, none⟩ = some (.slice Aa acc.length ca) := ((grown_cell hg3 (by first | omega | (simp <;> omega)) (fun e => by have := (HOA.out.block _ e).1; omega)).1 _).trans (by go_simp); have yf0 : w5.frozen? ⟨w1.heap.size, 0, none⟩ = false := ((grown_cell hg3 (by first | omega | (simp <;> omega)) (fun e => by have := (HOA.out.block _ e).1; omega)).2 _).trans (by go_simp); have yf1 : w5.frozen? ⟨w1.heap.size, 1, none⟩ = false := ((grown_cell hg3 (by first | omega | (simp <;> omega)) (fun e => by have := (HOA.out.block _ e).1; omega)).2 _).trans (by go_simp); have yt : w1.heap.size < w5.heap.size := (by omega); clear hat3 hg3; have HO3 := Lib.hid ho3; clear ho3)
          go_roundw
          case rel =>
            refine ⟨j + 1, by omega, by go_num, A3, c3, (by repeat (first | exact hb5 | exact Below.refl _ _ | with_reducible apply bel_drew | with_reducible apply bel_drewN | with_reducible apply bel_alloc | (with_reducible refine bel_set ?_ (by first | omega | (simp <;> omega)) _) | (with_reducible refine bel_step ?_ (by assumption)) | (with_reducible refine bel_step ?_ (grown_none (by assumption))))), (by first | omega | (simp <;> omega)), by go_simp, ?_, by go_simp, by go_simp, ?_⟩
            · rw [HQ.out, List.length_append]; go_simp
            · rw [HQ.out, List.length_append]; show Own dl 41 _ _ (.slice A3 (acc.length + 1) c3) _; exact (by (repeat (first | (with_reducible refine Own.setCell ?_ (fun k hk => by have := HO3.out.block k hk; simp <;> omega) _) | (with_reducible refine own_alloc ?_ _) | (with_reducible refine own_drew ?_) | (with_reducible refine own_drewN ?_ _))); exact HO3.out)
          case measure => simp [intOf]; omega
    · obtain rfl : j = ls.length := by omega
      rw [List.take_length] at r1 hoA
      have HOA := Lib.hid hoA
      obtain ⟨hcr, hfr⟩ := bcell hbw
      have z0 := (hcr _ 0 kt2).trans k2
      have z1 := (hcr _ 1 kt2).trans k3
      have zf0 := (hfr _ 0 kt2).trans kf2
      have zf1 := (hfr _ 1 kt2).trans kf3
      have zt : w.heap.size + 1 < wr.heap.size := by omega
      have HO1' := Lib.hid (HO1.out.below hbw)
      clear hoA hcr hfr
      go_wp2
      refine bodyPost_ret (v := .agg #[.slice A1 ts.length c1, .slice Aa (ls.filter (keepR p bl)).length ca]) (by simp [results, Try.results24, go_sem, *]) rfl ⟨A1, c1, Aa, ca, rfl, ?_, ?_, ?_, ?_⟩
      · exact (by (repeat (first | (with_reducible refine Own.setCell ?_ (fun k hk => by have := HO1.out.block k hk; simp <;> omega) _) | (with_reducible refine own_alloc ?_ _) | (with_reducible refine own_drew ?_) | (with_reducible refine own_drewN ?_ _))); exact HO1'.out.lower (by omega))
      · exact (by (repeat (first | (with_reducible refine Own.setCell ?_ (fun k hk => by have := HOA.out.block k hk; simp <;> omega) _) | (with_reducible refine own_alloc ?_ _) | (with_reducible refine own_drew ?_) | (with_reducible refine own_drewN ?_ _))); exact HOA.out.lower (by omega))
      · exact fun k k' hk hk' => by have := (HO1.out.block k hk).2; have := (HOA.out.block k' hk').1; omega
      · exact (by repeat (first | exact (bel_step HW1 hbw) | exact Below.refl _ _ | with_reducible apply bel_drew | with_reducible apply bel_drewN | with_reducible apply bel_alloc | (with_reducible refine bel_set ?_ (by first | omega | (simp <;> omega)) _) | (with_reducible refine bel_step ?_ (by assumption)) | (with_reducible refine bel_step ?_ (grown_none (by assumption)))))
end Go.Proofs.Ytamkkpdhponhnaa.Nw
