/- The document's Do: kind 5. -/
import Derived.Test.YtkcijghflaoccaaNf
import Derived.Outline
namespace Go.Proofs.Ytkcijghflaoccaa.Nw
open Go.RowKit Go.Proofs.Ytkcijghflaoccaa.Ow Go.Proofs.Ytkcijghflaoccaa.PNetworkAll
set_option linter.unusedVariables false
set_option linter.unusedSimpArgs false

theorem set_self {xs : List S39} {k : Nat} {x : S39} (h : xs[k]? = some x) : xs.set k x = xs := by
  obtain ⟨h1, h2⟩ := List.getElem?_eq_some_iff.1 h
  rw [← h2]; exact List.set_getElem_self h1

set_option maxRecDepth 20000 in
set_option maxHeartbeats 1000000 in
theorem dor_k5a (p : Int) (A : Option Addr) (n c : Nat) (xs : List S39) (h1 h2 h3 : Int) (w : World) (hr : Rd dk w (.slice A n c) xs) (hl : xs.length < 64)
    (x : S39) (k : Nat) (hk : modv h1 xs.length = (k : Int)) (hx : xs[k]? = some x) (hx2 : x.f2.size = 0) :
    Calls Try.prog 18 #[.agg #[.int .i64 p, .slice A n c], .agg #[.int .i64 5, .int .i64 h1, .int .i64 h2, .int .i64 h3]] w fun e w' => DoIs w e w' p (xs.set k ⟨x.f0, x.f1, forge x.f2 h2 h3⟩, [], 0) := by
  have e : xs.set k ⟨x.f0, x.f1, forge x.f2 h2 h3⟩ = xs := by rw [forge_none hx2]; exact set_self hx
  rw [e]
  clear e
  have hxe : x.f2.toList = [] := by
    rw [ByteArray.toList_eq]
    apply List.eq_nil_of_length_eq_zero; simpa using hx2
  have hxd : decide ((x.f2.size : Int) > 0) = false := decide_eq_false (by omega)
  have hxd2 : ¬ (0 < x.f2.size) := by omega
  clear hx2
  have hn := hr.len
  have hcap := hr.cap
  have H := Lib.hid hr
  clear hr
  subst hn
  obtain ⟨g, o, rfl, hg, hcx⟩ := H.out.at_ hx
  have cx0 := hcx 0 _ rfl
  have cx1 := hcx 1 _ rfl
  have cx2 := hcx 2 _ rfl
  clear hcx
  rw [show dk.sz = 3 from rfl] at cx0 cx1 cx2
  have M1 := fun W => mod_ref h1 xs.length W (by have := (List.getElem?_eq_some_iff.1 hx).1; omega) (by omega)
  rw [hk] at M1
  have HM := Lib.hid M1
  have hklt : k < xs.length := (List.getElem?_eq_some_iff.1 hx).1
  have hxs : ((xs.length : Int) == 0) = false := beq_eq_false_iff_ne.2 (by omega)
  have HX := Lib.hid hx
  clear M1 hk hx
  go_enter Try.func18, Try.ntmps18
  go_wp2_with fail
  refine (copyOf_any p (some ⟨g, o, none⟩) xs.length c xs _ (rd_step H.out (by repeat (first | exact Below.refl _ _ | with_reducible apply bel_drew | with_reducible apply bel_drewN | with_reducible apply bel_alloc | (with_reducible refine bel_set ?_ (by first | omega | (simp <;> omega)) _) | (with_reducible refine bel_step ?_ (by assumption)) | (with_reducible refine bel_step ?_ (grown_none (by assumption)))))) (by omega)).mono ?_
  rintro e w1 ⟨A1, c1, rfl, ho, hb⟩
  have hz := hb.size
  simp at hz
  obtain ⟨hc, hf⟩ := bcell hb
  have k0 : w1.cell? ⟨w.heap.size, 0, none⟩ = some (.int .i64 p) := (hc _ _ (by first | omega | (simp <;> omega))).trans (by go_simp)
  have kf0 : w1.frozen? ⟨w.heap.size, 0, none⟩ = false := (hf _ _ (by first | omega | (simp <;> omega))).trans (by go_simp)
  have k1 : w1.cell? ⟨w.heap.size, 1, none⟩ = some (.slice (some ⟨g, o, none⟩) xs.length c) := (hc _ _ (by first | omega | (simp <;> omega))).trans (by go_simp)
  have kf1 : w1.frozen? ⟨w.heap.size, 1, none⟩ = false := (hf _ _ (by first | omega | (simp <;> omega))).trans (by go_simp)
  have k2 : w1.cell? ⟨w.heap.size + 1, 0, none⟩ = some (.int .i64 5) := (hc _ _ (by first | omega | (simp <;> omega))).trans (by go_simp)
  have kf2 : w1.frozen? ⟨w.heap.size + 1, 0, none⟩ = false := (hf _ _ (by first | omega | (simp <;> omega))).trans (by go_simp)
  have k3 : w1.cell? ⟨w.heap.size + 1, 1, none⟩ = some (.int .i64 h1) := (hc _ _ (by first | omega | (simp <;> omega))).trans (by go_simp)
  have kf3 : w1.frozen? ⟨w.heap.size + 1, 1, none⟩ = false := (hf _ _ (by first | omega | (simp <;> omega))).trans (by go_simp)
  have k4 : w1.cell? ⟨w.heap.size + 1, 2, none⟩ = some (.int .i64 h2) := (hc _ _ (by first | omega | (simp <;> omega))).trans (by go_simp)
  have kf4 : w1.frozen? ⟨w.heap.size + 1, 2, none⟩ = false := (hf _ _ (by first | omega | (simp <;> omega))).trans (by go_simp)
  have k5 : w1.cell? ⟨w.heap.size + 1, 3, none⟩ = some (.int .i64 h3) := (hc _ _ (by first | omega | (simp <;> omega))).trans (by go_simp)
  have kf5 : w1.frozen? ⟨w.heap.size + 1, 3, none⟩ = false := (hf _ _ (by first | omega | (simp <;> omega))).trans (by go_simp)
  have k6 : w1.cell? ⟨w.heap.size + 1 + 1, 0, none⟩ = some (.int .i64 0) := (hc _ _ (by first | omega | (simp <;> omega))).trans (by go_simp)
  have kf6 : w1.frozen? ⟨w.heap.size + 1 + 1, 0, none⟩ = false := (hf _ _ (by first | omega | (simp <;> omega))).trans (by go_simp)
  have k7 : w1.cell? ⟨w.heap.size + 1 + 1, 1, none⟩ = some (.slice none 0 0) := (hc _ _ (by first | omega | (simp <;> omega))).trans (by go_simp)
  have kf7 : w1.frozen? ⟨w.heap.size + 1 + 1, 1, none⟩ = false := (hf _ _ (by first | omega | (simp <;> omega))).trans (by go_simp)
  have HBW : Below w.heap.size w w1 := bel_step (by repeat (first | exact Below.refl _ _ | with_reducible apply bel_drew | with_reducible apply bel_drewN | with_reducible apply bel_alloc | (with_reducible refine bel_set ?_ (by first | omega | (simp <;> omega)) _) | (with_reducible refine bel_step ?_ (by assumption)) | (with_reducible refine bel_step ?_ (grown_none (by assumption))))) hb
  have gx0 : w1.cell? ⟨g, o + k * 3, none⟩ = some (.int .i64 x.f0) := (HBW.cell (p := ⟨g, _, none⟩) hg).trans cx0
  have gx1 : w1.cell? ⟨g, o + k * 3 + 1, none⟩ = some (.int .i64 x.f1) := (HBW.cell (p := ⟨g, _, none⟩) hg).trans cx1
  have gx2 : w1.cell? ⟨g, o + k * 3 + 2, none⟩ = some (.string x.f2) := (HBW.cell (p := ⟨g, _, none⟩) hg).trans cx2
  have gl0 : g < w1.heap.size := by omega
  have gl1 : g < w1.heap.size + 1 := by omega
  have gl2 : g < w1.heap.size + 1 + 1 := by omega
  clear hc hf
  have lt0 : w.heap.size < w1.heap.size := (by omega)
  have lt1 : w.heap.size < w1.heap.size + 1 := (by omega)
  have lt2 : w.heap.size < w1.heap.size + 1 + 1 := (by omega)
  have lt3 : w.heap.size < w1.heap.size + 1 + 1 + 1 := (by omega)
  have lt4 : w.heap.size + 1 < w1.heap.size := (by omega)
  have lt5 : w.heap.size + 1 < w1.heap.size + 1 := (by omega)
  have lt6 : w.heap.size + 1 < w1.heap.size + 1 + 1 := (by omega)
  have lt7 : w.heap.size + 1 < w1.heap.size + 1 + 1 + 1 := (by omega)
  have lt8 : w.heap.size + 1 + 1 < w1.heap.size := (by omega)
  have lt9 : w.heap.size + 1 + 1 < w1.heap.size + 1 := (by omega)
  have lt10 : w.heap.size + 1 + 1 < w1.heap.size + 1 + 1 := (by omega)
  have lt11 : w.heap.size + 1 + 1 < w1.heap.size + 1 + 1 + 1 := (by omega)
  have HB := Lib.hid (fun k (hk : (Value.slice A1 xs.length c1).ownBlock = some k) => (show w.heap.size + 3 ≤ k ∧ k < w1.heap.size by have := ho.block k hk; simp at this; omega))
  have HO := Lib.hid (ho.lower (B' := w.heap.size) (by first | omega | (simp <;> omega)))
  clear ho
  go_wp2_with (go_at_call 35; (with_reducible refine (HM.out _).mono ?_); rintro e w' ⟨rfl, rfl⟩)
  refine bodyPost_ret (v := .tuple #[.agg #[.int .i64 p, .slice A1 xs.length c1], .slice none 0 0, .int .i64 0]) (by simp [results, Try.results18, go_sem, *]) rfl (do_mk rfl rfl (by (repeat (first | (with_reducible refine Own.setCell ?_ (fun k hk => by have := HB.out k hk; simp <;> omega) _) | (with_reducible refine own_alloc ?_ _) | (with_reducible refine own_drew ?_) | (with_reducible refine own_drewN ?_ _))); exact HO.out) (rd_none _) (none_block _) (by repeat (first | exact Below.refl _ _ | with_reducible apply bel_drew | with_reducible apply bel_drewN | with_reducible apply bel_alloc | (with_reducible refine bel_set ?_ (by first | omega | (simp <;> omega)) _) | (with_reducible refine bel_step ?_ (by assumption)) | (with_reducible refine bel_step ?_ (grown_none (by assumption))))))

theorem bytes_new {w w2 : World} {s : ByteArray} (h : Lib.bytesWorld w 5 s = w2) : w2.heap.size = w.heap.size + 1 ∧ Below w.heap.size w w2 ∧ Bts w2 w.heap.size s ∧ ∀ j, j < s.size → w2.frozen? ⟨w.heap.size, j, none⟩ = false := by
  subst h
  refine ⟨Lib.bytesWorld_size _ _ _, ⟨rfl, rfl, rfl, by rw [Lib.bytesWorld_size]; omega, fun k hk => Lib.bytesWorld_at_old _ _ _ _ hk⟩, fun j hj => ?_, fun j hj => ?_⟩
  · rw [Lib.bytesWorld_cell _ _ _ j (by simpa using hj)]
    simp [List.getD, List.getElem?_eq_getElem hj]
  · simp only [World.frozen?, Lib.bytesWorld_at_new]
    have : j < (Lib.bytesCells w 5 s).size := by
      unfold Lib.bytesCells; simp; omega
    simp; omega

set_option maxRecDepth 20000 in
set_option maxHeartbeats 1000000 in
theorem dor_k5b (p : Int) (A : Option Addr) (n c : Nat) (xs : List S39) (h1 h2 h3 : Int) (w : World) (hr : Rd dk w (.slice A n c) xs) (hl : xs.length < 64)
    (x : S39) (k : Nat) (hk : modv h1 xs.length = (k : Int)) (hx : xs[k]? = some x) (hx2 : x.f2.size ≤ 1000) (hx3 : 1 ≤ x.f2.size) :
    Calls Try.prog 18 #[.agg #[.int .i64 p, .slice A n c], .agg #[.int .i64 5, .int .i64 h1, .int .i64 h2, .int .i64 h3]] w fun e w' => DoIs w e w' p (xs.set k ⟨x.f0, x.f1, forge x.f2 h2 h3⟩, [], 0) := by
  have b1 := modv_bd h2 x.f2.size (by omega)
  have b2 := modv_bd h3 256 (by omega)
  obtain ⟨i, hi1⟩ := Int.eq_ofNat_of_zero_le b1.1
  obtain ⟨b, hb1⟩ := Int.eq_ofNat_of_zero_le b2.1
  rw [hi1] at b1
  rw [hb1] at b2
  have hlt : i < x.f2.size := by omega
  have hblt : b < 256 := by omega
  have hbb : b = (UInt8.ofNat b).toNat := by simp; omega
  have HF := forge_some (by omega) hi1 (b := UInt8.ofNat b) (by rw [hb1, ← hbb])
  rw [HF]
  clear HF
  have M1 := fun W => mod_ref h2 x.f2.size W (by omega) (by omega)
  have M2 := fun W => mod_ref h3 256 W (by omega) (by omega)
  rw [hi1] at M1
  rw [hb1] at M2
  have hwr : IntKind.u8.wrap (b : Int) = (b : Int) := IntWalk.u8_in _ (by omega)
  have N1 := Lib.hid M1
  have N2 := Lib.hid M2
  have HBB := Lib.hid hbb
  clear M1 M2 hi1 hb1 b1 b2 hbb
  have hxd : decide ((x.f2.size : Int) > 0) = true := decide_eq_true (by omega)
  have hxd2 : 0 < x.f2.size := by omega
  have hcv : ∀ W, (convert 9 60 (.string x.f2)).run Try.prog W = .ok (.slice (some ⟨W.heap.size, 0, none⟩) x.f2.size (grownCap W x.f2.size 0 5)) (Lib.bytesWorld W 5 x.f2) := fun W => Lib.run_convert_string_bytes W 9 60 5 x.f2 Try.underlying9 Try.underlying60 Try.underlying5
  have hn := hr.len
  have hcap := hr.cap
  have H := Lib.hid hr
  clear hr
  subst hn
  obtain ⟨g, o, rfl, hg, hcx⟩ := H.out.at_ hx
  have cx0 := hcx 0 _ rfl
  have cx1 := hcx 1 _ rfl
  have cx2 := hcx 2 _ rfl
  clear hcx
  rw [show dk.sz = 3 from rfl] at cx0 cx1 cx2
  have M1 := fun W => mod_ref h1 xs.length W (by have := (List.getElem?_eq_some_iff.1 hx).1; omega) (by omega)
  rw [hk] at M1
  have HM := Lib.hid M1
  have hklt : k < xs.length := (List.getElem?_eq_some_iff.1 hx).1
  have hxs : ((xs.length : Int) == 0) = false := beq_eq_false_iff_ne.2 (by omega)
  have HX := Lib.hid hx
  clear M1 hk hx
  go_enter Try.func18, Try.ntmps18
  go_wp2_with fail
  refine (copyOf_any p (some ⟨g, o, none⟩) xs.length c xs _ (rd_step H.out (by repeat (first | exact Below.refl _ _ | with_reducible apply bel_drew | with_reducible apply bel_drewN | with_reducible apply bel_alloc | (with_reducible refine bel_set ?_ (by first | omega | (simp <;> omega)) _) | (with_reducible refine bel_step ?_ (by assumption)) | (with_reducible refine bel_step ?_ (grown_none (by assumption)))))) (by omega)).mono ?_
  rintro e w1 ⟨A1, c1, rfl, ho, hb⟩
  have hz := hb.size
  simp at hz
  obtain ⟨hc, hf⟩ := bcell hb
  have k0 : w1.cell? ⟨w.heap.size, 0, none⟩ = some (.int .i64 p) := (hc _ _ (by first | omega | (simp <;> omega))).trans (by go_simp)
  have kf0 : w1.frozen? ⟨w.heap.size, 0, none⟩ = false := (hf _ _ (by first | omega | (simp <;> omega))).trans (by go_simp)
  have k1 : w1.cell? ⟨w.heap.size, 1, none⟩ = some (.slice (some ⟨g, o, none⟩) xs.length c) := (hc _ _ (by first | omega | (simp <;> omega))).trans (by go_simp)
  have kf1 : w1.frozen? ⟨w.heap.size, 1, none⟩ = false := (hf _ _ (by first | omega | (simp <;> omega))).trans (by go_simp)
  have k2 : w1.cell? ⟨w.heap.size + 1, 0, none⟩ = some (.int .i64 5) := (hc _ _ (by first | omega | (simp <;> omega))).trans (by go_simp)
  have kf2 : w1.frozen? ⟨w.heap.size + 1, 0, none⟩ = false := (hf _ _ (by first | omega | (simp <;> omega))).trans (by go_simp)
  have k3 : w1.cell? ⟨w.heap.size + 1, 1, none⟩ = some (.int .i64 h1) := (hc _ _ (by first | omega | (simp <;> omega))).trans (by go_simp)
  have kf3 : w1.frozen? ⟨w.heap.size + 1, 1, none⟩ = false := (hf _ _ (by first | omega | (simp <;> omega))).trans (by go_simp)
  have k4 : w1.cell? ⟨w.heap.size + 1, 2, none⟩ = some (.int .i64 h2) := (hc _ _ (by first | omega | (simp <;> omega))).trans (by go_simp)
  have kf4 : w1.frozen? ⟨w.heap.size + 1, 2, none⟩ = false := (hf _ _ (by first | omega | (simp <;> omega))).trans (by go_simp)
  have k5 : w1.cell? ⟨w.heap.size + 1, 3, none⟩ = some (.int .i64 h3) := (hc _ _ (by first | omega | (simp <;> omega))).trans (by go_simp)
  have kf5 : w1.frozen? ⟨w.heap.size + 1, 3, none⟩ = false := (hf _ _ (by first | omega | (simp <;> omega))).trans (by go_simp)
  have k6 : w1.cell? ⟨w.heap.size + 1 + 1, 0, none⟩ = some (.int .i64 0) := (hc _ _ (by first | omega | (simp <;> omega))).trans (by go_simp)
  have kf6 : w1.frozen? ⟨w.heap.size + 1 + 1, 0, none⟩ = false := (hf _ _ (by first | omega | (simp <;> omega))).trans (by go_simp)
  have k7 : w1.cell? ⟨w.heap.size + 1 + 1, 1, none⟩ = some (.slice none 0 0) := (hc _ _ (by first | omega | (simp <;> omega))).trans (by go_simp)
  have kf7 : w1.frozen? ⟨w.heap.size + 1 + 1, 1, none⟩ = false := (hf _ _ (by first | omega | (simp <;> omega))).trans (by go_simp)
  have HBW : Below w.heap.size w w1 := bel_step (by repeat (first | exact Below.refl _ _ | with_reducible apply bel_drew | with_reducible apply bel_drewN | with_reducible apply bel_alloc | (with_reducible refine bel_set ?_ (by first | omega | (simp <;> omega)) _) | (with_reducible refine bel_step ?_ (by assumption)) | (with_reducible refine bel_step ?_ (grown_none (by assumption))))) hb
  have gx0 : w1.cell? ⟨g, o + k * 3, none⟩ = some (.int .i64 x.f0) := (HBW.cell (p := ⟨g, _, none⟩) hg).trans cx0
  have gx1 : w1.cell? ⟨g, o + k * 3 + 1, none⟩ = some (.int .i64 x.f1) := (HBW.cell (p := ⟨g, _, none⟩) hg).trans cx1
  have gx2 : w1.cell? ⟨g, o + k * 3 + 2, none⟩ = some (.string x.f2) := (HBW.cell (p := ⟨g, _, none⟩) hg).trans cx2
  have gl0 : g < w1.heap.size := by omega
  have gl1 : g < w1.heap.size + 1 := by omega
  have gl2 : g < w1.heap.size + 1 + 1 := by omega
  have hfo : ∃ g1, A1 = some ⟨g1, 0, none⟩ ∧ w.heap.size + 3 ≤ g1 ∧ g1 < w1.heap.size ∧ w1.cell? ⟨g1, k * 3 + 2, none⟩ = some (.string x.f2) ∧ w1.frozen? ⟨g1, k * 3 + 2, none⟩ = false := by
    rcases ho.form with ⟨h, h0⟩ | ⟨g1, c1', cur, hv, _, _, hB, hlt, hh, hs, ht⟩
    · simp only [Value.slice.injEq] at h; omega
    · simp only [Value.slice.injEq] at hv
      obtain ⟨rfl, _, rfl⟩ := hv
      obtain ⟨g2, o2, e2, _, hc3⟩ := ho.rd.at_ HX.out
      simp only [Option.some.injEq, Addr.mk.injEq] at e2
      obtain ⟨rfl, rfl, _⟩ := e2
      have h3 := hc3 2 _ rfl
      refine ⟨g1, rfl, by simp at hB; omega, hlt, ?_, frozen_of_row _ _ _ _ _ hh⟩
      rw [show 0 + k * dk.sz + 2 = k * 3 + 2 by show 0 + k * 3 + 2 = _; omega] at h3
      exact h3
  obtain ⟨g1, rfl, gb1, gb2, gc1, gc2⟩ := hfo
  have ge0 : g1 < w1.heap.size + 1 := by omega
  have ge1 : g1 < w1.heap.size + 1 + 1 := by omega
  clear hc hf
  have lt0 : w.heap.size < w1.heap.size := (by omega)
  have lt1 : w.heap.size < w1.heap.size + 1 := (by omega)
  have lt2 : w.heap.size < w1.heap.size + 1 + 1 := (by omega)
  have lt3 : w.heap.size < w1.heap.size + 1 + 1 + 1 := (by omega)
  have lt4 : w.heap.size + 1 < w1.heap.size := (by omega)
  have lt5 : w.heap.size + 1 < w1.heap.size + 1 := (by omega)
  have lt6 : w.heap.size + 1 < w1.heap.size + 1 + 1 := (by omega)
  have lt7 : w.heap.size + 1 < w1.heap.size + 1 + 1 + 1 := (by omega)
  have lt8 : w.heap.size + 1 + 1 < w1.heap.size := (by omega)
  have lt9 : w.heap.size + 1 + 1 < w1.heap.size + 1 := (by omega)
  have lt10 : w.heap.size + 1 + 1 < w1.heap.size + 1 + 1 := (by omega)
  have lt11 : w.heap.size + 1 + 1 < w1.heap.size + 1 + 1 + 1 := (by omega)
  have HB := Lib.hid (fun k (hk : (Value.slice (some ⟨g1, 0, none⟩) xs.length c1).ownBlock = some k) => (show w.heap.size + 3 ≤ k ∧ k < w1.heap.size by have := ho.block k hk; simp at this; omega))
  have HO := Lib.hid (ho.lower (B' := w.heap.size) (by first | omega | (simp <;> omega)))
  clear ho
  go_wp2_with (first | (go_at_call 35; (with_reducible refine (HM.out _).mono ?_); rintro e w' ⟨rfl, rfl⟩))
  clear hcv
  generalize hw2 : Lib.bytesWorld _ 5 x.f2 = w2
  generalize grownCap _ x.f2.size 0 5 = cc
  obtain ⟨e1, e2, e3, e4⟩ := bytes_new hw2
  clear hw2
  have e3' : Bts w2 (w1.heap.size + 1 + 1) x.f2 := by simpa using e3
  have e4' : w2.frozen? ⟨w1.heap.size + 1 + 1, i, none⟩ = false := by simpa using e4 i hlt
  have e5 : w2.cell? ⟨w1.heap.size + 1 + 1, i, none⟩ = some (.int .u8 (x.f2.data.toList[i]'(by simpa using hlt)).toNat) := e3' i (by simpa using hlt)
  have hzc := e1
  simp at hzc
  have hzc' : w1.heap.size + 1 + 1 < w2.heap.size := by omega
  clear e1 hzc e3 e4
  obtain ⟨hc2, hf2⟩ := bcell e2
  have m0 : w2.cell? ⟨w.heap.size, 0, none⟩ = some (.int .i64 p) := (hc2 _ _ (by first | omega | (simp <;> omega))).trans (by go_simp)
  have mf0 : w2.frozen? ⟨w.heap.size, 0, none⟩ = false := (hf2 _ _ (by first | omega | (simp <;> omega))).trans (by go_simp)
  have m1 : w2.cell? ⟨w.heap.size, 1, none⟩ = some (.slice (some ⟨g, o, none⟩) xs.length c) := (hc2 _ _ (by first | omega | (simp <;> omega))).trans (by go_simp)
  have mf1 : w2.frozen? ⟨w.heap.size, 1, none⟩ = false := (hf2 _ _ (by first | omega | (simp <;> omega))).trans (by go_simp)
  have m2 : w2.cell? ⟨w.heap.size + 1, 0, none⟩ = some (.int .i64 5) := (hc2 _ _ (by first | omega | (simp <;> omega))).trans (by go_simp)
  have mf2 : w2.frozen? ⟨w.heap.size + 1, 0, none⟩ = false := (hf2 _ _ (by first | omega | (simp <;> omega))).trans (by go_simp)
  have m3 : w2.cell? ⟨w.heap.size + 1, 1, none⟩ = some (.int .i64 h1) := (hc2 _ _ (by first | omega | (simp <;> omega))).trans (by go_simp)
  have mf3 : w2.frozen? ⟨w.heap.size + 1, 1, none⟩ = false := (hf2 _ _ (by first | omega | (simp <;> omega))).trans (by go_simp)
  have m4 : w2.cell? ⟨w.heap.size + 1, 2, none⟩ = some (.int .i64 h2) := (hc2 _ _ (by first | omega | (simp <;> omega))).trans (by go_simp)
  have mf4 : w2.frozen? ⟨w.heap.size + 1, 2, none⟩ = false := (hf2 _ _ (by first | omega | (simp <;> omega))).trans (by go_simp)
  have m5 : w2.cell? ⟨w.heap.size + 1, 3, none⟩ = some (.int .i64 h3) := (hc2 _ _ (by first | omega | (simp <;> omega))).trans (by go_simp)
  have mf5 : w2.frozen? ⟨w.heap.size + 1, 3, none⟩ = false := (hf2 _ _ (by first | omega | (simp <;> omega))).trans (by go_simp)
  have m6 : w2.cell? ⟨w.heap.size + 1 + 1, 0, none⟩ = some (.int .i64 0) := (hc2 _ _ (by first | omega | (simp <;> omega))).trans (by go_simp)
  have mf6 : w2.frozen? ⟨w.heap.size + 1 + 1, 0, none⟩ = false := (hf2 _ _ (by first | omega | (simp <;> omega))).trans (by go_simp)
  have m7 : w2.cell? ⟨w.heap.size + 1 + 1, 1, none⟩ = some (.slice none 0 0) := (hc2 _ _ (by first | omega | (simp <;> omega))).trans (by go_simp)
  have mf7 : w2.frozen? ⟨w.heap.size + 1 + 1, 1, none⟩ = false := (hf2 _ _ (by first | omega | (simp <;> omega))).trans (by go_simp)
  have m8 : w2.cell? ⟨w1.heap.size, 0, none⟩ = some (.int .i64 p) := (hc2 _ _ (by first | omega | (simp <;> omega))).trans (by go_simp)
  have mf8 : w2.frozen? ⟨w1.heap.size, 0, none⟩ = false := (hf2 _ _ (by first | omega | (simp <;> omega))).trans (by go_simp)
  have m9 : w2.cell? ⟨w1.heap.size, 1, none⟩ = some (.slice (some ⟨g1, 0, none⟩) xs.length c1) := (hc2 _ _ (by first | omega | (simp <;> omega))).trans (by go_simp)
  have mf9 : w2.frozen? ⟨w1.heap.size, 1, none⟩ = false := (hf2 _ _ (by first | omega | (simp <;> omega))).trans (by go_simp)
  have m10 : w2.cell? ⟨w1.heap.size + 1, 0, none⟩ = some (.int .i64 x.f0) := (hc2 _ _ (by first | omega | (simp <;> omega))).trans (by go_simp)
  have mf10 : w2.frozen? ⟨w1.heap.size + 1, 0, none⟩ = false := (hf2 _ _ (by first | omega | (simp <;> omega))).trans (by go_simp)
  have m11 : w2.cell? ⟨w1.heap.size + 1, 1, none⟩ = some (.int .i64 x.f1) := (hc2 _ _ (by first | omega | (simp <;> omega))).trans (by go_simp)
  have mf11 : w2.frozen? ⟨w1.heap.size + 1, 1, none⟩ = false := (hf2 _ _ (by first | omega | (simp <;> omega))).trans (by go_simp)
  have m12 : w2.cell? ⟨w1.heap.size + 1, 2, none⟩ = some (.string x.f2) := (hc2 _ _ (by first | omega | (simp <;> omega))).trans (by go_simp)
  have mf12 : w2.frozen? ⟨w1.heap.size + 1, 2, none⟩ = false := (hf2 _ _ (by first | omega | (simp <;> omega))).trans (by go_simp)
  have q1 : w2.cell? ⟨g1, k * 3 + 2, none⟩ = some (.string x.f2) := (hc2 _ _ (by first | omega | (simp <;> omega))).trans (by go_simp)
  have q2 : w2.frozen? ⟨g1, k * 3 + 2, none⟩ = false := (hf2 _ _ (by first | omega | (simp <;> omega))).trans (by go_simp)
  clear hc2 hf2
  have HC := Lib.hid (fun (W : World) (h : Bts W (w1.heap.size + 1 + 1) x.f2) => back_set (c := cc) h hlt HBB.out)
  have HE := Lib.hid e3'
  clear e3'
  go_region_held3 (fun w' => w'.cell? ⟨w.heap.size + 1, 2, none⟩ = some (.int .i64 h2) ∧ w'.cell? ⟨w.heap.size + 1, 3, none⟩ = some (.int .i64 h3)) (first | (refine ⟨?_, ?_⟩ <;> go_simp))
    (first | (go_at_call 35; (with_reducible refine (N1.out _).mono ?_); rintro e w' ⟨rfl, rfl⟩) | (go_at_call 35; (with_reducible refine (N2.out _).mono ?_); rintro e w' ⟨rfl, rfl⟩))
  all_goals
    have hconv : (convert 60 9 (.slice (some ⟨w1.heap.size + 1 + 1, 0, none⟩) x.f2.size cc)).run Try.prog (w2.setCell ⟨w1.heap.size + 1 + 1, i, none⟩ (.int .u8 b)).drew = .ok (.string ⟨(x.f2.data.toList.set i (UInt8.ofNat b)).toArray⟩) (w2.setCell ⟨w1.heap.size + 1 + 1, i, none⟩ (.int .u8 b)).drew := HC.out w2.drew HE.out
    go_wp2
    refine bodyPost_ret (v := .tuple #[.agg #[.int .i64 p, .slice (some ⟨g1, 0, none⟩) xs.length c1], .slice none 0 0, .int .i64 0]) (by simp [results, Try.results18, go_sem, *]) rfl (do_mk (by simp) rfl (own_drew (Own.setCell (Own.setCell ?_ (fun k hk => by have := HB.out k hk; first | omega | (simp <;> omega)) _) (fun k hk => by have := HB.out k hk; first | omega | (simp <;> omega)) _)) (rd_none _) (none_block _) (by repeat (first | exact Below.refl _ _ | with_reducible apply bel_drew | with_reducible apply bel_drewN | with_reducible apply bel_alloc | (with_reducible refine bel_set ?_ (by first | omega | (simp <;> omega)) _) | (with_reducible refine bel_step ?_ (by assumption)) | (with_reducible refine bel_step ?_ (grown_none (by assumption))))))
    exact own_body (Own.setCell (own_still HO.out (by repeat (first | exact Below.refl _ _ | with_reducible apply bel_drew | with_reducible apply bel_drewN | with_reducible apply bel_alloc | (with_reducible refine bel_set ?_ (by first | omega | (simp <;> omega)) _) | (with_reducible refine bel_step ?_ (by assumption)) | (with_reducible refine bel_step ?_ (grown_none (by assumption)))))) (fun k hk => by have := HB.out k hk; first | omega | (simp <;> omega)) _) HX.out _

end Go.Proofs.Ytkcijghflaoccaa.Nw
