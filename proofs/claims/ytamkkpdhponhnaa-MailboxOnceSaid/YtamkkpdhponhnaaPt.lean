/- The law's sanity check is true. -/
import Derived.Test.YtamkkpdhponhnaaPr
import Derived.Test.YtamkkpdhponhnaaPj
import Derived.Test.YtamkkpdhponhnaaPp
import Derived.LoopTactic
import Derived.Outline
import Derived.Deep.RegionLaw
namespace Go.Proofs.Ytamkkpdhponhnaa.Nw
open Go.RowKit Go.Proofs.Ytamkkpdhponhnaa.Ow Go.Proofs.Ytamkkpdhponhnaa.PMailboxAll Go.Proofs.YtamkkpdhponhnaaW.PrintWords
set_option linter.unusedVariables false
set_option linter.unusedSimpArgs false

theorem PutIs.open {B : Nat} {w w' : World} {e : Ending} {r : List S56 × List S41 × Int × Int} (h : PutIs B w e w' r) {ts ls n er N M} (hr : r = (ts, ls, n, er)) (hN : ts.length = N) (hM : ls.length = M) :
    ∃ A c A' c', e = .returned (.tuple #[.agg #[.slice A N c, .slice A' M c'], .int .i64 n, .int .i64 er]) ∧ Own dt 56 w' B (.slice A N c) ts ∧ Own dl 41 w' B (.slice A' M c') ls ∧
      (∀ k k', (Value.slice A N c).ownBlock = some k → (Value.slice A' M c').ownBlock = some k' → k ≠ k') ∧ Below B w w' := by
  subst hr; subst hN; subst hM; exact h
theorem MbIs.open {B : Nat} {w w' : World} {e : Ending} {ts : List S56} {ls0 : List S41} (h : MbIs B w e w' ts ls0) {ls N M} (hr : ls0 = ls) (hN : ts.length = N) (hM : ls.length = M) :
    ∃ A c A' c', e = .returned (.agg #[.slice A N c, .slice A' M c']) ∧ Own dt 56 w' B (.slice A N c) ts ∧ Own dl 41 w' B (.slice A' M c') ls ∧
      (∀ k k', (Value.slice A N c).ownBlock = some k → (Value.slice A' M c').ownBlock = some k' → k ≠ k') ∧ Below B w w' := by
  subst hr; subst hN; subst hM; exact h
def mill : ByteArray := ⟨#[109, 105, 108, 108]⟩
theorem aw1 : putR [] [] ⟨#[109, 105, 108, 108]⟩ ⟨#[97]⟩ = ([⟨mill, 1⟩], [⟨mill, 0, ⟨#[97]⟩⟩], 0, 0) := by
  unfold putR; rw [name_mill]; kernel_rfl
theorem aw2 : putR [⟨mill, 1⟩] [⟨mill, 0, ⟨#[97]⟩⟩] ⟨#[109, 105, 108, 108]⟩ ⟨#[98]⟩ = ([⟨mill, 2⟩], [⟨mill, 0, ⟨#[97]⟩⟩, ⟨mill, 1, ⟨#[98]⟩⟩], 1, 0) := by
  unfold putR; rw [name_mill]; kernel_rfl
theorem aw3 : [(⟨mill, 0, ⟨#[97]⟩⟩ : S41), ⟨mill, 1, ⟨#[98]⟩⟩].filter (fun l => !wantD ⟨#[109, 105, 108, 108]⟩ 0 1 l) = [⟨mill, 1, ⟨#[98]⟩⟩] := by kernel_rfl
theorem aw4 : nextP [⟨mill, 2⟩] ⟨#[109, 105, 108, 108]⟩ = 2 := by kernel_rfl
theorem aw5 : countA ⟨#[109, 105, 108, 108]⟩ [⟨mill, 1, ⟨#[98]⟩⟩] = 1 := by kernel_rfl
set_option maxRecDepth 100000 in
set_option maxHeartbeats 4000000 in
theorem awake_any (w : World) : Calls Try.prog 8 #[] w fun e w' => e = .returned (.bool true) ∧ Below w.heap.size w w' := by
  go_enter Try.func8, Try.ntmps8
  go_wp2_with fail
  refine (put_any none 0 0 [] none 0 0 [] _ (Rd.nil _ _) (Rd.nil _ _) (by simp) (by simp) ⟨#[109, 105, 108, 108]⟩ ⟨#[97]⟩).mono ?_
  intro e w1 h
  obtain ⟨A1, c1, B1, d1, rfl, ho1, hp1, hne1, hb1⟩ := h.open (N := 1) (M := 1) aw1 rfl rfl
  clear h hne1
  have hz1 := hb1.size
  have HT1 := Lib.hid (show Own dt 56 w1 w.heap.size (.slice A1 1 c1) [⟨mill, 1⟩] from ho1.lower (by first | omega | (simp <;> omega)))
  have HL1 := Lib.hid (show Own dl 41 w1 w.heap.size (.slice B1 1 d1) [⟨mill, 0, ⟨#[97]⟩⟩] from hp1.lower (by first | omega | (simp <;> omega)))
  have HBT1 := Lib.hid (show ∀ k, (Value.slice A1 1 c1).ownBlock = some k → w.heap.size ≤ k ∧ k < w1.heap.size from fun k hk => by have := ho1.block k hk; (try simp at this); omega)
  have HBL1 := Lib.hid (show ∀ k, (Value.slice B1 1 d1).ownBlock = some k → w.heap.size ≤ k ∧ k < w1.heap.size from fun k hk => by have := hp1.block k hk; (try simp at this); omega)
  clear ho1 hp1
  go_wp2_with fail
  refine (put_any A1 1 c1 [⟨mill, 1⟩] B1 1 d1 [⟨mill, 0, ⟨#[97]⟩⟩] _ (Own.rd (e := 56) (B := w.heap.size) (by (repeat (first | (with_reducible refine Own.setCell ?_ (fun k hk => by have := HBT1.out k hk; simp <;> omega) _) | (with_reducible refine Ow.own_alloc ?_ _) | (with_reducible refine Ow.own_drew ?_) | (with_reducible refine Ow.own_drewN ?_ _))); exact HT1.out)) (Own.rd (e := 41) (B := w.heap.size) (by (repeat (first | (with_reducible refine Own.setCell ?_ (fun k hk => by have := HBL1.out k hk; simp <;> omega) _) | (with_reducible refine Ow.own_alloc ?_ _) | (with_reducible refine Ow.own_drew ?_) | (with_reducible refine Ow.own_drewN ?_ _))); exact HL1.out)) (by simp) (by simp) ⟨#[109, 105, 108, 108]⟩ ⟨#[98]⟩).mono ?_
  intro e w2 h
  obtain ⟨A2, c2, B2, d2, rfl, ho2, hp2, hne2, hb2⟩ := h.open (N := 1) (M := 2) aw2 rfl rfl
  clear h hne2
  have hzk := hb2.size; (try simp at hzk); obtain ⟨hck, hfk⟩ := bcell hb2; have k0 : w2.cell? ⟨w1.heap.size, 0, none⟩ = some (.slice A1 1 c1) := (hck _ _ (by first | omega | (simp <;> omega))).trans (by go_simp); have kf0 : w2.frozen? ⟨w1.heap.size, 0, none⟩ = false := (hfk _ _ (by first | omega | (simp <;> omega))).trans (by go_simp); have k1 : w2.cell? ⟨w1.heap.size, 1, none⟩ = some (.slice B1 1 d1) := (hck _ _ (by first | omega | (simp <;> omega))).trans (by go_simp); have kf1 : w2.frozen? ⟨w1.heap.size, 1, none⟩ = false := (hfk _ _ (by first | omega | (simp <;> omega))).trans (by go_simp); have kt0 : w1.heap.size < w2.heap.size := (by omega); have kt1 : w1.heap.size < w2.heap.size + 1 := (by omega); clear hck hfk
  have HT2 := Lib.hid (show Own dt 56 w2 w.heap.size (.slice A2 1 c2) [⟨mill, 2⟩] from ho2.lower (by first | omega | (simp <;> omega)))
  have HL2 := Lib.hid (show Own dl 41 w2 w.heap.size (.slice B2 2 d2) [⟨mill, 0, ⟨#[97]⟩⟩, ⟨mill, 1, ⟨#[98]⟩⟩] from hp2.lower (by first | omega | (simp <;> omega)))
  have HBT2 := Lib.hid (show ∀ k, (Value.slice A2 1 c2).ownBlock = some k → w1.heap.size + 1 ≤ k ∧ k < w2.heap.size from fun k hk => by have := ho2.block k hk; (try simp at this); omega)
  have HBL2 := Lib.hid (show ∀ k, (Value.slice B2 2 d2).ownBlock = some k → w1.heap.size + 1 ≤ k ∧ k < w2.heap.size from fun k hk => by have := hp2.block k hk; (try simp at this); omega)
  clear ho2 hp2
  go_wp2_with fail
  refine (drop_any A2 1 c2 [⟨mill, 2⟩] B2 2 d2 [⟨mill, 0, ⟨#[97]⟩⟩, ⟨mill, 1, ⟨#[98]⟩⟩] _ (Own.rd (e := 56) (B := w.heap.size) (by (repeat (first | (with_reducible refine Own.setCell ?_ (fun k hk => by have := HBT2.out k hk; simp <;> omega) _) | (with_reducible refine Ow.own_alloc ?_ _) | (with_reducible refine Ow.own_drew ?_) | (with_reducible refine Ow.own_drewN ?_ _))); exact HT2.out)) (Own.rd (e := 41) (B := w.heap.size) (by (repeat (first | (with_reducible refine Own.setCell ?_ (fun k hk => by have := HBL2.out k hk; simp <;> omega) _) | (with_reducible refine Ow.own_alloc ?_ _) | (with_reducible refine Ow.own_drew ?_) | (with_reducible refine Ow.own_drewN ?_ _))); exact HL2.out)) (by simp) (by simp) ⟨#[109, 105, 108, 108]⟩ 1).mono ?_
  intro e w3 h
  obtain ⟨A3, c3, B3, d3, rfl, ho3, hp3, hne3, hb3⟩ := h.open (N := 1) (M := 1) aw3 rfl rfl
  clear h hne3
  have hzm := hb3.size; (try simp at hzm); obtain ⟨hcm, hfm⟩ := bcell hb3; have m0 : w3.cell? ⟨w1.heap.size, 0, none⟩ = some (.slice A2 1 c2) := (hcm _ _ (by first | omega | (simp <;> omega))).trans (by go_simp); have mf0 : w3.frozen? ⟨w1.heap.size, 0, none⟩ = false := (hfm _ _ (by first | omega | (simp <;> omega))).trans (by go_simp); have m1 : w3.cell? ⟨w1.heap.size, 1, none⟩ = some (.slice B2 2 d2) := (hcm _ _ (by first | omega | (simp <;> omega))).trans (by go_simp); have mf1 : w3.frozen? ⟨w1.heap.size, 1, none⟩ = false := (hfm _ _ (by first | omega | (simp <;> omega))).trans (by go_simp); have mt0 : w1.heap.size < w3.heap.size := (by omega); have mt1 : w1.heap.size < w3.heap.size + 1 := (by omega); clear hcm hfm
  have HT3 := Lib.hid (show Own dt 56 w3 w.heap.size (.slice A3 1 c3) [⟨mill, 2⟩] from ho3.lower (by first | omega | (simp <;> omega)))
  have HL3 := Lib.hid (show Own dl 41 w3 w.heap.size (.slice B3 1 d3) [⟨mill, 1, ⟨#[98]⟩⟩] from hp3.lower (by first | omega | (simp <;> omega)))
  have HBT3 := Lib.hid (show ∀ k, (Value.slice A3 1 c3).ownBlock = some k → w1.heap.size + 1 ≤ k ∧ k < w3.heap.size from fun k hk => by have := ho3.block k hk; (try simp at this); omega)
  have HBL3 := Lib.hid (show ∀ k, (Value.slice B3 1 d3).ownBlock = some k → w1.heap.size + 1 ≤ k ∧ k < w3.heap.size from fun k hk => by have := hp3.block k hk; (try simp at this); omega)
  clear ho3 hp3
  go_wp2_with fail
  refine (next_any A3 1 c3 [⟨mill, 2⟩] (.slice B3 1 d3) ⟨_, _, _, rfl⟩ ⟨#[109, 105, 108, 108]⟩ _ (Own.rd (e := 56) (B := w.heap.size) (by (repeat (first | (with_reducible refine Own.setCell ?_ (fun k hk => by have := HBT3.out k hk; simp <;> omega) _) | (with_reducible refine Ow.own_alloc ?_ _) | (with_reducible refine Ow.own_drew ?_) | (with_reducible refine Ow.own_drewN ?_ _))); exact HT3.out)) (by simp)).mono ?_
  rintro e w4 ⟨rfl, hb4⟩
  rw [aw4]
  have hzr := hb4.size; (try simp at hzr); obtain ⟨hcr, hfr⟩ := bcell hb4; have r0 : w4.cell? ⟨w1.heap.size, 0, none⟩ = some (.slice A3 1 c3) := (hcr _ _ (by first | omega | (simp <;> omega))).trans (by go_simp); have rf0 : w4.frozen? ⟨w1.heap.size, 0, none⟩ = false := (hfr _ _ (by first | omega | (simp <;> omega))).trans (by go_simp); have r1 : w4.cell? ⟨w1.heap.size, 1, none⟩ = some (.slice B3 1 d3) := (hcr _ _ (by first | omega | (simp <;> omega))).trans (by go_simp); have rf1 : w4.frozen? ⟨w1.heap.size, 1, none⟩ = false := (hfr _ _ (by first | omega | (simp <;> omega))).trans (by go_simp); have rt0 : w1.heap.size < w4.heap.size := (by omega); have rt1 : w1.heap.size < w4.heap.size + 1 := (by omega); clear hcr hfr
  have HL4 := Lib.hid (show Own dl 41 w4 w.heap.size (.slice B3 1 d3) [⟨mill, 1, ⟨#[98]⟩⟩] from Own.below (by (repeat (first | (with_reducible refine Own.setCell ?_ (fun k hk => by have := HBL3.out k hk; simp <;> omega) _) | (with_reducible refine Ow.own_alloc ?_ _) | (with_reducible refine Ow.own_drew ?_) | (with_reducible refine Ow.own_drewN ?_ _))); exact HL3.out) hb4)
  go_wp2_with fail
  refine (count_any A3 1 c3 B3 1 d3 [⟨mill, 1, ⟨#[98]⟩⟩] ⟨#[109, 105, 108, 108]⟩ _ (Own.rd HL4.out) (by simp)).mono ?_
  rintro e w5 ⟨rfl, hb5⟩
  rw [aw5]
  go_wp2
  go_ret
  exact ⟨rfl, (by repeat (first | exact Below.refl _ _ | with_reducible apply bel_drew | with_reducible apply bel_drewN | with_reducible apply bel_alloc | (with_reducible refine bel_set ?_ (by first | omega | (simp <;> omega)) _) | (with_reducible refine bel_step ?_ (by assumption)) | (with_reducible refine bel_step ?_ (grown_none (by assumption)))))⟩
end Go.Proofs.Ytamkkpdhponhnaa.Nw
