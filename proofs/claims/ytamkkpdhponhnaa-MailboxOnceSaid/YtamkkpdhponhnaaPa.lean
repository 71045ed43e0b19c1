/- Contracts: copies of a mailbox. -/
import Derived.Test.YtamkkpdhponhnaaOw
import Derived.Test.YtamkkpdhponhnaaPMailboxAllx0
import Derived.LoopTactic
import Derived.IntWalk
import Derived.Lib.Hide
import Derived.WalkSpells
import Derived.Deep.RegionLaw
import Derived.Outline
namespace Go.Proofs.Ytamkkpdhponhnaa.Nw
open Go.RowKit Go.Proofs.Ytamkkpdhponhnaa.Ow Go.Proofs.Ytamkkpdhponhnaa.PMailboxAll
set_option linter.unusedVariables false
set_option linter.unusedSimpArgs false

/-- A topic, a letter in cells. -/
def dt : En S56 := { enc := fun x => [.string x.f0, .int .i64 x.f1], sz := 2, pos := by omega, len := fun _ => rfl, one := fun x u hu => by simp at hu; rcases hu with rfl | rfl <;> rfl }
def dl : En S41 := { enc := fun x => [.string x.f0, .int .i64 x.f1, .string x.f2], sz := 3, pos := by omega, len := fun _ => rfl, one := fun x u hu => by simp at hu; rcases hu with rfl | rfl | rfl <;> rfl }
theorem info56 : (Try.prog.info? 56).map (fun i => (i.zero, i.size, i.bytes)) = some (some (.agg #[(.string ⟨#[]⟩), (.int .i64 0)]), 2, 24) := by kernel_rfl
def CloneT (w : World) (e : Ending) (w' : World) (xs : List S56) : Prop := ∃ A c, e = .returned (.slice A xs.length c) ∧ Own dt 56 w' w.heap.size (.slice A xs.length c) xs ∧ Below w.heap.size w w'
theorem cloneT_mk {w w' : World} {v : Value} {xs : List S56} (ho : Own dt 56 w' w.heap.size v xs) (hb : Below w.heap.size w w') : CloneT w (.returned v) w' xs := by
  obtain ⟨A, c, rfl⟩ := ho.rd.form
  exact ⟨A, c, rfl, ho, hb⟩
set_option maxHeartbeats 400000 in
theorem cloneT_any (A : Option Addr) (n c : Nat) (xs : List S56) (w : World) (hr : Rd dt w (.slice A n c) xs) (hl : xs.length ≤ 1000000) :
    Calls Try.prog 39 #[.slice A n c] w fun e w' => CloneT w e w' xs := by
  rcases hr with ⟨hv, rfl⟩ | ⟨g, o, c, hv, h1, h2, h3, h4⟩ <;> (simp only [Value.slice.injEq] at hv; obtain ⟨rfl, rfl, rfl⟩ := hv)
  · have heq : ∀ W, (binOp .eql 27 (.slice none 0 0) (.slice none 0 0)).run Try.prog W = .ok (.bool true) W := fun W => Lib.run_eql_slice_nil W 27 56 none 0 0 0 0 Try.underlying27
    go_enter Try.func39, Try.ntmps39
    go_wp2
    go_ret
    exact cloneT_mk (Own.nil _ _ _ _) (Below.refl _ _)
  · have hr : Rd dt w (.slice (some ⟨g, o, none⟩) xs.length c) xs := .inr ⟨g, o, c, rfl, h1, h2, h3, h4⟩
    have H := Lib.hid hr
    clear hr h4
    have heq : ∀ W, (binOp .eql 27 (.slice (some ⟨g, o, none⟩) xs.length c) (.slice none 0 0)).run Try.prog W = .ok (.bool false) W := fun W => Lib.run_eql_slice_nil W 27 56 (some ⟨g, o, none⟩) xs.length c 0 0 Try.underlying27
    have hown : Own dt 56 (w.alloc (.cells #[] 56)) w.heap.size (.slice (some ⟨w.heap.size, 0, none⟩) 0 0) [] := World.ownsRow_made w #[] 0 (Nat.le_refl _) (by unfold maxLen; omega) (by rfl)
    have HO := Lib.hid hown
    clear hown
    obtain ⟨i0, hi, hz0, hz1, hz2⟩ := info_parts info56
    go_enter Try.func39, Try.ntmps39
    go_wp2_with (at_builtin; refine wpList_append_rd (d := dt) rfl _ _ 27 rfl 56 i0 _ 24 w.heap.size Try.underlying27 hi hz0 hz1 hz2 rfl rfl HO.out rfl (H.out.below ((Below.refl _ _).alloc (Nat.le_refl _) _)) (by first | omega | (simp <;> omega)) (by unfold maxLen; simp <;> omega) (by first | omega | (simp <;> omega)) xs.length (by simp) ?_; intro A' c' w' ho hg _)
    go_ret
    exact cloneT_mk (by simpa using ho) (((Below.refl _ _).alloc (Nat.le_refl _) _).grown hg (by simp) (fun k hk => by have h : w.heap.size = k := Option.some.inj hk; omega))
def CloneL (w : World) (e : Ending) (w' : World) (xs : List S41) : Prop := ∃ A c, e = .returned (.slice A xs.length c) ∧ Own dl 41 w' w.heap.size (.slice A xs.length c) xs ∧ Below w.heap.size w w'
theorem cloneL_mk {w w' : World} {v : Value} {xs : List S41} (ho : Own dl 41 w' w.heap.size v xs) (hb : Below w.heap.size w w') : CloneL w (.returned v) w' xs := by
  obtain ⟨A, c, rfl⟩ := ho.rd.form
  exact ⟨A, c, rfl, ho, hb⟩
set_option maxHeartbeats 400000 in
theorem cloneL_any (A : Option Addr) (n c : Nat) (xs : List S41) (w : World) (hr : Rd dl w (.slice A n c) xs) (hl : xs.length ≤ 1000000) :
    Calls Try.prog 40 #[.slice A n c] w fun e w' => CloneL w e w' xs := by
  rcases hr with ⟨hv, rfl⟩ | ⟨g, o, c, hv, h1, h2, h3, h4⟩ <;> (simp only [Value.slice.injEq] at hv; obtain ⟨rfl, rfl, rfl⟩ := hv)
  · have heq : ∀ W, (binOp .eql 28 (.slice none 0 0) (.slice none 0 0)).run Try.prog W = .ok (.bool true) W := fun W => Lib.run_eql_slice_nil W 28 41 none 0 0 0 0 Try.underlying28
    go_enter Try.func40, Try.ntmps40
    go_wp2
    go_ret
    exact cloneL_mk (Own.nil _ _ _ _) (Below.refl _ _)
  · have hr : Rd dl w (.slice (some ⟨g, o, none⟩) xs.length c) xs := .inr ⟨g, o, c, rfl, h1, h2, h3, h4⟩
    have H := Lib.hid hr
    clear hr h4
    have heq : ∀ W, (binOp .eql 28 (.slice (some ⟨g, o, none⟩) xs.length c) (.slice none 0 0)).run Try.prog W = .ok (.bool false) W := fun W => Lib.run_eql_slice_nil W 28 41 (some ⟨g, o, none⟩) xs.length c 0 0 Try.underlying28
    have hown : Own dl 41 (w.alloc (.cells #[] 41)) w.heap.size (.slice (some ⟨w.heap.size, 0, none⟩) 0 0) [] := World.ownsRow_made w #[] 0 (Nat.le_refl _) (by unfold maxLen; omega) (by rfl)
    have HO := Lib.hid hown
    clear hown
    obtain ⟨i0, hi, hz0, hz1, hz2⟩ := info_parts info41
    go_enter Try.func40, Try.ntmps40
    go_wp2_with (at_builtin; refine wpList_append_rd (d := dl) rfl _ _ 28 rfl 41 i0 _ 40 w.heap.size Try.underlying28 hi hz0 hz1 hz2 rfl rfl HO.out rfl (H.out.below ((Below.refl _ _).alloc (Nat.le_refl _) _)) (by first | omega | (simp <;> omega)) (by unfold maxLen; simp <;> omega) (by first | omega | (simp <;> omega)) xs.length (by simp) ?_; intro A' c' w' ho hg _)
    go_ret
    exact cloneL_mk (by simpa using ho) (((Below.refl _ _).alloc (Nat.le_refl _) _).grown hg (by simp) (fun k hk => by have h : w.heap.size = k := Option.some.inj hk; omega))
/-- A mailbox of its own. -/
def MbIs (B : Nat) (w : World) (e : Ending) (w' : World) (ts : List S56) (ls : List S41) : Prop :=
  ∃ A c A' c', e = .returned (.agg #[.slice A ts.length c, .slice A' ls.length c']) ∧ Own dt 56 w' B (.slice A ts.length c) ts ∧ Own dl 41 w' B (.slice A' ls.length c') ls ∧
    (∀ k k', (Value.slice A ts.length c).ownBlock = some k → (Value.slice A' ls.length c').ownBlock = some k' → k ≠ k') ∧ Below B w w'

set_option maxHeartbeats 1000000 in
theorem copied_any (A : Option Addr) (n c : Nat) (ts : List S56) (A' : Option Addr) (n' c' : Nat) (ls : List S41) (w : World) (hr : Rd dt w (.slice A n c) ts) (hr' : Rd dl w (.slice A' n' c') ls) (hl : ts.length ≤ 1000) (hl' : ls.length ≤ 1000) :
    Calls Try.prog 27 #[.agg #[.slice A n c, .slice A' n' c']] w fun e w' => MbIs w.heap.size w e w' ts ls := by
  have H := Lib.hid (fun (W : World) (hb : Below w.heap.size w W) => rd_step hr hb)
  have H' := Lib.hid (fun (W : World) (hb : Below w.heap.size w W) => rd_step hr' hb)
  clear hr hr'
  go_enter Try.func27, Try.ntmps27
  go_wp2_with fail
  go_region_law (first | (go_simp; go_at_call 39; (with_reducible refine (cloneT_any A n c ts _ (H.out _ (by repeat (first | exact Below.refl _ _ | with_reducible apply bel_drew | with_reducible apply bel_drewN | with_reducible apply bel_alloc | (with_reducible refine bel_set ?_ (by first | omega | (simp <;> omega)) _) | (with_reducible refine bel_step ?_ (by assumption)) | (with_reducible refine bel_step ?_ (grown_none (by assumption)))))) (by omega)).mono ?_); rintro e w1 ⟨A1, c1, rfl, ho1, hb1⟩; have hzk := hb1.size; (try simp at hzk); obtain ⟨hck, hfk⟩ := bcell hb1; have k0 : w1.cell? ⟨w.heap.size, 0, none⟩ = some (.slice A n c) := (hck _ _ (by first | omega | (simp <;> omega))).trans (by go_simp); have kf0 : w1.frozen? ⟨w.heap.size, 0, none⟩ = false := (hfk _ _ (by first | omega | (simp <;> omega))).trans (by go_simp); have k1 : w1.cell? ⟨w.heap.size, 1, none⟩ = some (.slice A' n' c') := (hck _ _ (by first | omega | (simp <;> omega))).trans (by go_simp); have kf1 : w1.frozen? ⟨w.heap.size, 1, none⟩ = false := (hfk _ _ (by first | omega | (simp <;> omega))).trans (by go_simp); have k2 : w1.cell? ⟨w.heap.size + 1, 0, none⟩ = some (.slice none 0 0) := (hck _ _ (by first | omega | (simp <;> omega))).trans (by go_simp); have kf2 : w1.frozen? ⟨w.heap.size + 1, 0, none⟩ = false := (hfk _ _ (by first | omega | (simp <;> omega))).trans (by go_simp); have k3 : w1.cell? ⟨w.heap.size + 1, 1, none⟩ = some (.slice none 0 0) := (hck _ _ (by first | omega | (simp <;> omega))).trans (by go_simp); have kf3 : w1.frozen? ⟨w.heap.size + 1, 1, none⟩ = false := (hfk _ _ (by first | omega | (simp <;> omega))).trans (by go_simp); have kt0 : w.heap.size < w1.heap.size := (by omega); have kt1 : w.heap.size < w1.heap.size + 1 := (by omega); have kt2 : w.heap.size + 1 < w1.heap.size := (by omega); have kt3 : w.heap.size + 1 < w1.heap.size + 1 := (by omega); clear hck hfk; have HO1 := Lib.hid (ho1.lower (B' := w.heap.size + 2) (by first | omega | (simp <;> omega))); clear ho1) | (go_simp; go_at_call 40; (with_reducible refine (cloneL_any A' n' c' ls _ (H'.out _ (by repeat (first | exact Below.refl _ _ | with_reducible apply bel_drew | with_reducible apply bel_drewN | with_reducible apply bel_alloc | (with_reducible refine bel_set ?_ (by first | omega | (simp <;> omega)) _) | (with_reducible refine bel_step ?_ (by assumption)) | (with_reducible refine bel_step ?_ (grown_none (by assumption)))))) (by omega)).mono ?_); rintro e w2 ⟨A2, c2, rfl, ho2, hb2⟩; have hzm := hb2.size; (try simp at hzm); obtain ⟨hcm, hfm⟩ := bcell hb2; have m0 : w2.cell? ⟨w.heap.size, 0, none⟩ = some (.slice A n c) := (hcm _ _ (by first | omega | (simp <;> omega))).trans (by go_simp); have mf0 : w2.frozen? ⟨w.heap.size, 0, none⟩ = false := (hfm _ _ (by first | omega | (simp <;> omega))).trans (by go_simp); have m1 : w2.cell? ⟨w.heap.size, 1, none⟩ = some (.slice A' n' c') := (hcm _ _ (by first | omega | (simp <;> omega))).trans (by go_simp); have mf1 : w2.frozen? ⟨w.heap.size, 1, none⟩ = false := (hfm _ _ (by first | omega | (simp <;> omega))).trans (by go_simp); have m2 : w2.cell? ⟨w.heap.size + 1, 0, none⟩ = some (.slice none 0 0) := (hcm _ _ (by first | omega | (simp <;> omega))).trans (by go_simp); have mf2 : w2.frozen? ⟨w.heap.size + 1, 0, none⟩ = false := (hfm _ _ (by first | omega | (simp <;> omega))).trans (by go_simp); have m3 : w2.cell? ⟨w.heap.size + 1, 1, none⟩ = some (.slice none 0 0) := (hcm _ _ (by first | omega | (simp <;> omega))).trans (by go_simp); have mf3 : w2.frozen? ⟨w.heap.size + 1, 1, none⟩ = false := (hfm _ _ (by first | omega | (simp <;> omega))).trans (by go_simp); have mt0 : w.heap.size < w2.heap.size := (by omega); have mt1 : w.heap.size < w2.heap.size + 1 := (by omega); have mt2 : w.heap.size + 1 < w2.heap.size := (by omega); have mt3 : w.heap.size + 1 < w2.heap.size + 1 := (by omega); clear hcm hfm; have HBT := Lib.hid (fun k hk => (HO1.out.block k hk)); have HBL := Lib.hid (show ∀ k, (Value.slice A2 ls.length c2).ownBlock = some k → w1.heap.size ≤ k from fun k hk => by have := (ho2.block k hk).1; (try simp at this); omega); have HO2 := Lib.hid (ho2.lower (B' := w.heap.size + 2) (by first | omega | (simp <;> omega))); clear ho2))
  all_goals go_wp2
  all_goals
    refine bodyPost_ret (v := .agg #[.slice A1 ts.length c1, .slice A2 ls.length c2]) (by simp [results, Try.results27, go_sem, *]) rfl ⟨A1, c1, A2, c2, rfl, ?_, ?_, ?_, (by repeat (first | exact Below.refl _ _ | with_reducible apply bel_drew | with_reducible apply bel_drewN | with_reducible apply bel_alloc | (with_reducible refine bel_set ?_ (by first | omega | (simp <;> omega)) _) | (with_reducible refine bel_step ?_ (by assumption)) | (with_reducible refine bel_step ?_ (grown_none (by assumption)))))⟩
    · exact (by (repeat (first | (with_reducible refine Own.setCell ?_ (fun k hk => by have := HBT.out k hk; simp <;> omega) _) | (with_reducible refine own_alloc ?_ _) | (with_reducible refine own_drew ?_) | (with_reducible refine own_drewN ?_ _))); exact ((HO1.out.below (by repeat (first | exact Below.refl _ _ | with_reducible apply bel_drew | with_reducible apply bel_drewN | with_reducible apply bel_alloc | (with_reducible refine bel_set ?_ (by first | omega | (simp <;> omega)) _) | (with_reducible refine bel_step ?_ (by assumption)) | (with_reducible refine bel_step ?_ (grown_none (by assumption)))))).lower (by omega)))
    · exact (by (repeat (first | (with_reducible refine Own.setCell ?_ (fun k hk => by have := HBL.out k hk; simp <;> omega) _) | (with_reducible refine own_alloc ?_ _) | (with_reducible refine own_drew ?_) | (with_reducible refine own_drewN ?_ _))); exact HO2.out.lower (by omega))
    · intro k k' hk hk'
      have := (HBT.out k hk).2
      have := HBL.out k' hk'
      omega

set_option maxHeartbeats 1000000 in
theorem copyOf_any (A : Option Addr) (n c : Nat) (ts : List S56) (A' : Option Addr) (n' c' : Nat) (ls : List S41) (w : World) (hr : Rd dt w (.slice A n c) ts) (hr' : Rd dl w (.slice A' n' c') ls) (hl : ts.length ≤ 1000) (hl' : ls.length ≤ 1000) :
    Calls Try.prog 34 #[.agg #[.slice A n c, .slice A' n' c']] w fun e w' => MbIs w.heap.size w e w' ts ls := by
  have H := Lib.hid (fun (W : World) (hb : Below w.heap.size w W) => rd_step hr hb)
  have H' := Lib.hid (fun (W : World) (hb : Below w.heap.size w W) => rd_step hr' hb)
  clear hr hr'
  obtain ⟨i56, hi56, hz56, hs56, hb56⟩ := info_parts info56
  obtain ⟨i41, hi41, hz41, hs41, hb41⟩ := info_parts info41
  go_enter Try.func34, Try.ntmps34
  go_wp2_with fail
  go_region_law (first | (have _t := tokT; refine step_append_rd (d := dl) (v := .slice none 0 0) (y := .slice A' n' c') (xs := []) (ys := ls) rfl (.const (.slice none 0 0)) (.tmp 7) 28 rfl 41 i41 _ 40 (w.heap.size + 2) Try.underlying28 hi41 hz41 hs41 hb41 rfl (by simp [Act.eval, Act.put]) (Own.nil dl 41 _ _) (by simp [Act.eval, Act.put]) (H'.out _ (by repeat (first | exact Below.refl _ _ | with_reducible apply bel_drew | with_reducible apply bel_drewN | with_reducible apply bel_alloc | (with_reducible refine bel_set ?_ (by first | omega | (simp <;> omega)) _) | (with_reducible refine bel_step ?_ (by assumption)) | (with_reducible refine bel_step ?_ (grown_none (by assumption)))))) (by simp <;> omega) (by unfold maxLen; simp <;> omega) (by first | omega | (simp <;> omega)) ls.length (by simp) ?_; intro A8 c8 w2 ho8 hg8 hat8; have hb8 := grown_none hg8; rw [List.nil_append] at ho8; have hzm := hb8.size; (try simp at hzm); obtain ⟨hcm, hfm⟩ := bcell hb8; have m0 : w2.cell? ⟨w.heap.size, 0, none⟩ = some (.slice A n c) := (hcm _ _ (by first | omega | (simp <;> omega))).trans (by go_simp); have mf0 : w2.frozen? ⟨w.heap.size, 0, none⟩ = false := (hfm _ _ (by first | omega | (simp <;> omega))).trans (by go_simp); have m1 : w2.cell? ⟨w.heap.size, 1, none⟩ = some (.slice A' n' c') := (hcm _ _ (by first | omega | (simp <;> omega))).trans (by go_simp); have mf1 : w2.frozen? ⟨w.heap.size, 1, none⟩ = false := (hfm _ _ (by first | omega | (simp <;> omega))).trans (by go_simp); have m2 : w2.cell? ⟨w.heap.size + 1, 0, none⟩ = some (.slice none 0 0) := (hcm _ _ (by first | omega | (simp <;> omega))).trans (by go_simp); have mf2 : w2.frozen? ⟨w.heap.size + 1, 0, none⟩ = false := (hfm _ _ (by first | omega | (simp <;> omega))).trans (by go_simp); have m3 : w2.cell? ⟨w.heap.size + 1, 1, none⟩ = some (.slice none 0 0) := (hcm _ _ (by first | omega | (simp <;> omega))).trans (by go_simp); have mf3 : w2.frozen? ⟨w.heap.size + 1, 1, none⟩ = false := (hfm _ _ (by first | omega | (simp <;> omega))).trans (by go_simp); have mt0 : w.heap.size < w2.heap.size := (by omega); have mt1 : w.heap.size < w2.heap.size + 1 := (by omega); have mt2 : w.heap.size + 1 < w2.heap.size := (by omega); have mt3 : w.heap.size + 1 < w2.heap.size + 1 := (by omega); clear hcm hfm; have HBL := Lib.hid (show ∀ k, (Value.slice A8 ls.length c8).ownBlock = some k → w1.heap.size ≤ k from block_at hat8 (fun k => w1.heap.size ≤ k) (fun k hk => by simp [Value.ownBlock] at hk) (by first | omega | (simp <;> omega))); have HO2 := Lib.hid ho8; clear hat8 hg8 ho8) | (refine step_append_rd (d := dt) (v := .slice none 0 0) (y := .slice A n c) (xs := []) (ys := ts) rfl (.const (.slice none 0 0)) (.tmp 4) 27 rfl 56 i56 _ 24 (w.heap.size + 2) Try.underlying27 hi56 hz56 hs56 hb56 rfl (by simp [Act.eval, Act.put]) (Own.nil dt 56 _ _) (by simp [Act.eval, Act.put]) (H.out _ (by repeat (first | exact Below.refl _ _ | with_reducible apply bel_drew | with_reducible apply bel_drewN | with_reducible apply bel_alloc | (with_reducible refine bel_set ?_ (by first | omega | (simp <;> omega)) _) | (with_reducible refine bel_step ?_ (by assumption)) | (with_reducible refine bel_step ?_ (grown_none (by assumption)))))) (by simp <;> omega) (by unfold maxLen; simp <;> omega) (by first | omega | (simp <;> omega)) ts.length (by simp) ?_; intro A5 c5 w1 ho5 hg5 hat5; have hb5 := grown_none hg5; rw [List.nil_append] at ho5; have hzk := hb5.size; (try simp at hzk); obtain ⟨hck, hfk⟩ := bcell hb5; have k0 : w1.cell? ⟨w.heap.size, 0, none⟩ = some (.slice A n c) := (hck _ _ (by first | omega | (simp <;> omega))).trans (by go_simp); have kf0 : w1.frozen? ⟨w.heap.size, 0, none⟩ = false := (hfk _ _ (by first | omega | (simp <;> omega))).trans (by go_simp); have k1 : w1.cell? ⟨w.heap.size, 1, none⟩ = some (.slice A' n' c') := (hck _ _ (by first | omega | (simp <;> omega))).trans (by go_simp); have kf1 : w1.frozen? ⟨w.heap.size, 1, none⟩ = false := (hfk _ _ (by first | omega | (simp <;> omega))).trans (by go_simp); have k2 : w1.cell? ⟨w.heap.size + 1, 0, none⟩ = some (.slice none 0 0) := (hck _ _ (by first | omega | (simp <;> omega))).trans (by go_simp); have kf2 : w1.frozen? ⟨w.heap.size + 1, 0, none⟩ = false := (hfk _ _ (by first | omega | (simp <;> omega))).trans (by go_simp); have k3 : w1.cell? ⟨w.heap.size + 1, 1, none⟩ = some (.slice none 0 0) := (hck _ _ (by first | omega | (simp <;> omega))).trans (by go_simp); have kf3 : w1.frozen? ⟨w.heap.size + 1, 1, none⟩ = false := (hfk _ _ (by first | omega | (simp <;> omega))).trans (by go_simp); have kt0 : w.heap.size < w1.heap.size := (by omega); have kt1 : w.heap.size < w1.heap.size + 1 := (by omega); have kt2 : w.heap.size + 1 < w1.heap.size := (by omega); have kt3 : w.heap.size + 1 < w1.heap.size + 1 := (by omega); clear hck hfk; have HBT := Lib.hid (fun k hk => (ho5.block k hk)); have tokT : True := trivial; have HO1 := Lib.hid ho5; clear hat5 hg5 ho5))
  all_goals go_wp2
  all_goals
    refine bodyPost_ret (v := .agg #[.slice A5 ts.length c5, .slice A8 ls.length c8]) (by simp [results, Try.results34, go_sem, *]) rfl ⟨A5, c5, A8, c8, rfl, ?_, ?_, ?_, (by repeat (first | exact Below.refl _ _ | with_reducible apply bel_drew | with_reducible apply bel_drewN | with_reducible apply bel_alloc | (with_reducible refine bel_set ?_ (by first | omega | (simp <;> omega)) _) | (with_reducible refine bel_step ?_ (by assumption)) | (with_reducible refine bel_step ?_ (grown_none (by assumption)))))⟩
    · exact (by (repeat (first | (with_reducible refine Own.setCell ?_ (fun k hk => by have := HBT.out k hk; simp <;> omega) _) | (with_reducible refine own_alloc ?_ _) | (with_reducible refine own_drew ?_) | (with_reducible refine own_drewN ?_ _))); exact ((HO1.out.below (by repeat (first | exact Below.refl _ _ | with_reducible apply bel_drew | with_reducible apply bel_drewN | with_reducible apply bel_alloc | (with_reducible refine bel_set ?_ (by first | omega | (simp <;> omega)) _) | (with_reducible refine bel_step ?_ (by assumption)) | (with_reducible refine bel_step ?_ (grown_none (by assumption)))))).lower (by omega)))
    · exact (by (repeat (first | (with_reducible refine Own.setCell ?_ (fun k hk => by have := HBL.out k hk; simp <;> omega) _) | (with_reducible refine own_alloc ?_ _) | (with_reducible refine own_drew ?_) | (with_reducible refine own_drewN ?_ _))); exact HO2.out.lower (by omega))
    · intro k k' hk hk'
      have := (HBT.out k hk).2
      have := HBL.out k' hk'
      omega

end Go.Proofs.Ytamkkpdhponhnaa.Nw
