/- Run. -/
import Derived.Test.YtkcijghflaoccaaNq
import Derived.Test.YtkcijghflaoccaaNr
import Derived.LoopTactic
namespace Go.Proofs.Ytkcijghflaoccaa.Nw
open Go.RowKit Go.Proofs.Ytkcijghflaoccaa.Ow Go.Proofs.Ytkcijghflaoccaa.PNetworkAll
set_option linter.unusedVariables false
set_option linter.unusedSimpArgs false

set_option maxRecDepth 20000 in
set_option maxHeartbeats 4000000 in
theorem run_ref_some (p : Int) (A : Option Addr) (n c : Nat) (xs : List S39) (gh oh ch : Nat) (hs : List S34) (w : World) (hr : Rd dk w (.slice A n c) xs) (hr2 : Rd dh w (.slice (some ⟨gh, oh, none⟩) hs.length ch) hs) (hl : xs.length + hs.length < 64) (hsh : Short xs) :
    Calls Try.prog 21 #[.agg #[.int .i64 p, .slice A n c], .slice (some ⟨gh, oh, none⟩) hs.length ch] w fun e w' => RunIs w e w' p (runR xs hs) := by
  have hn := hr.len
  have hcap := hr.cap
  have H := Lib.hid hr
  have H2 := Lib.hid hr2
  have hgh : gh < w.heap.size := hr2.block gh rfl
  clear hr2
  have HS := Lib.hid hsh
  clear hr hsh
  subst hn
  obtain ⟨i0, hi, hz0, hs0, hz2⟩ := info_parts info39
  go_enter Try.func21, Try.ntmps21
  go_wp2_with fail
  refine (copyOf_any p A xs.length c xs _ (rd_step H.out (by repeat (first | exact Below.refl _ _ | with_reducible apply bel_drew | with_reducible apply bel_drewN | with_reducible apply bel_alloc | (with_reducible refine bel_set ?_ (by first | omega | (simp <;> omega)) _) | (with_reducible refine bel_step ?_ (by assumption)) | (with_reducible refine bel_step ?_ (grown_none (by assumption)))))) (by omega)).mono ?_
  rintro e w1 ⟨A1, c1, rfl, ho, hb⟩
  have hz := hb.size
  simp at hz
  obtain ⟨hc, hf⟩ := bcell hb
  have k0 : w1.cell? ⟨w.heap.size, 0, none⟩ = some (.int .i64 p) := (hc _ _ (by first | omega | (simp <;> omega))).trans (by go_simp)
  have kf0 : w1.frozen? ⟨w.heap.size, 0, none⟩ = false := (hf _ _ (by first | omega | (simp <;> omega))).trans (by go_simp)
  have k1 : w1.cell? ⟨w.heap.size, 1, none⟩ = some (.slice A xs.length c) := (hc _ _ (by first | omega | (simp <;> omega))).trans (by go_simp)
  have kf1 : w1.frozen? ⟨w.heap.size, 1, none⟩ = false := (hf _ _ (by first | omega | (simp <;> omega))).trans (by go_simp)
  have k2 : w1.cell? ⟨w.heap.size + 1, 0, none⟩ = some (.int .i64 0) := (hc _ _ (by first | omega | (simp <;> omega))).trans (by go_simp)
  have kf2 : w1.frozen? ⟨w.heap.size + 1, 0, none⟩ = false := (hf _ _ (by first | omega | (simp <;> omega))).trans (by go_simp)
  have k3 : w1.cell? ⟨w.heap.size + 1, 1, none⟩ = some (.slice none 0 0) := (hc _ _ (by first | omega | (simp <;> omega))).trans (by go_simp)
  have kf3 : w1.frozen? ⟨w.heap.size + 1, 1, none⟩ = false := (hf _ _ (by first | omega | (simp <;> omega))).trans (by go_simp)
  clear hc hf
  have lt0 : w.heap.size < w1.heap.size := (by omega)
  have lt1 : w.heap.size < w1.heap.size + 1 := (by omega)
  have lt2 : w.heap.size + 1 < w1.heap.size := (by omega)
  have lt3 : w.heap.size + 1 < w1.heap.size + 1 := (by omega)
  have HB := Lib.hid (fun k (hk : (Value.slice A1 xs.length c1).ownBlock = some k) => (show w.heap.size + 2 ≤ k ∧ k < w1.heap.size by have := ho.block k hk; simp at this; omega))
  have HO := Lib.hid (ho.lower (B' := w.heap.size) (by first | omega | (simp <;> omega)))
  clear ho
  go_wp2_with fail
  have start : RunI w w1.heap.size p (runTo xs hs 0).1 (runTo xs hs 0).2 (.slice none 0 0) (w1.alloc (Obj.cells #[.int .i64 p, .slice A1 xs.length c1] 29)) := by
    have e0 : runTo xs hs 0 = (xs, []) := rfl
    rw [e0]
    refine ⟨A1, c1, none, 0, rfl, (by repeat (first | exact Below.refl _ _ | with_reducible apply bel_drew | with_reducible apply bel_drewN | with_reducible apply bel_alloc | (with_reducible refine bel_set ?_ (by first | omega | (simp <;> omega)) _) | (with_reducible refine bel_step ?_ (by assumption)) | (with_reducible refine bel_step ?_ (grown_none (by assumption))))), (by first | omega | (simp <;> omega)), (by first | omega | (simp <;> omega)), by go_simp, by go_simp, by go_simp, by go_simp, by go_simp, by go_simp, by go_simp, by go_simp, own_alloc HO.out _, fun k hk => ?_, Own.nil _ _ _ _, fun k hk => by simp [Value.ownBlock] at hk⟩
    have := HB.out k hk
    simp <;> omega
  go_loopw [7, 17] (fun v i wr => ∃ k : Nat, k ≤ hs.length ∧ i = .int .i64 k ∧ RunI w w1.heap.size p (runTo xs hs k).1 (runTo xs hs k).2 v wr) (fun _ i _ => hs.length - (intOf i).toNat)
  case atStart => exact ⟨0, Nat.zero_le _, rfl, start⟩
  case round =>
    obtain ⟨k, hk, rfl, hI⟩ := hrel
    clear start
    have bd := runTo_bd xs hs k HS.out
    by_cases hlt : k < hs.length
    · obtain ⟨h, hh⟩ : ∃ h, hs[k]? = some h := ⟨_, List.getElem?_eq_getElem hlt⟩
      have hnext := runTo_succ (xs := xs) hh
      generalize runTo xs hs k = s at hI bd hnext
      obtain ⟨xk, acc⟩ := s
      dsimp only at hI bd hnext
      obtain ⟨Ak, ck, Aa, ca, rfl, hbw, hB0, hB1, d0, d1, df0, df1, r0, r1, rf0, rf1, hoN, hobN, hoA, hobA⟩ := hI
      have HON := Lib.hid hoN
      have HBN := Lib.hid hobN
      have HOA := Lib.hid hoA
      have HBA := Lib.hid hobA
      obtain ⟨gh', oh', he, _, hcx⟩ := H2.out.at_ hh
      simp only [Option.some.injEq, Addr.mk.injEq] at he
      obtain ⟨rfl, rfl, _⟩ := he
      have gx0 : wr.cell? ⟨gh, oh + k * 4, none⟩ = some (.int .i64 h.f0) := (hbw.cell (p := ⟨gh, _, none⟩) hgh).trans (hcx 0 _ rfl)
      have gx1 : wr.cell? ⟨gh, oh + k * 4 + 1, none⟩ = some (.int .i64 h.f1) := (hbw.cell (p := ⟨gh, _, none⟩) hgh).trans (hcx 1 _ rfl)
      have gx2 : wr.cell? ⟨gh, oh + k * 4 + 2, none⟩ = some (.int .i64 h.f2) := (hbw.cell (p := ⟨gh, _, none⟩) hgh).trans (hcx 2 _ rfl)
      have gx3 : wr.cell? ⟨gh, oh + k * 4 + 3, none⟩ = some (.int .i64 h.f3) := (hbw.cell (p := ⟨gh, _, none⟩) hgh).trans (hcx 3 _ rfl)
      have gl0 : gh < wr.heap.size := by have := hbw.size; omega
      have gn0 : w.heap.size + 1 < wr.heap.size := by omega
      have l1 := bd.1
      have l2 := bd.2.1
      have HSX := Lib.hid bd.2.2.1
      have HNX := Lib.hid hnext
      have HH := Lib.hid hh
      clear hcx hoN hobN hoA hobA hnext bd hh
      go_wp2_with fail
      have rl := doR_len xk h
      refine (do_ref p Ak xk.length ck xk h _ (rd_step HON.out.rd (by repeat (first | exact Below.refl _ _ | with_reducible apply bel_drew | with_reducible apply bel_drewN | with_reducible apply bel_alloc | (with_reducible refine bel_set ?_ (by first | omega | (simp <;> omega)) _) | (with_reducible refine bel_step ?_ (by assumption)) | (with_reducible refine bel_step ?_ (grown_none (by assumption)))))) (by omega) HSX.out).mono ?_
      rintro e w2 ⟨Ad, cd, Ap, cp, rfl, hod, hrp, hbp, hb2⟩
      have HNX2 : Hid (runTo xs hs (k + 1) = ((doR xk h).1, acc ++ (doR xk h).2.1)) := HNX.out
      clear HNX
      generalize doR xk h = r at rl hod hrp hbp HNX2 ⊢
      have rl1 := rl.1
      have rl2 := rl.2
      clear rl
      have hzc := hb2.size
      simp at hzc
      obtain ⟨hc2, hf2⟩ := bcell hb2
      have m0 : w2.cell? ⟨w1.heap.size, 0, none⟩ = some (.int .i64 p) := (hc2 _ _ (by first | omega | (simp <;> omega))).trans (by go_simp)
      have mf0 : w2.frozen? ⟨w1.heap.size, 0, none⟩ = false := (hf2 _ _ (by first | omega | (simp <;> omega))).trans (by go_simp)
      have m1 : w2.cell? ⟨w1.heap.size, 1, none⟩ = some (.slice Ak xk.length ck) := (hc2 _ _ (by first | omega | (simp <;> omega))).trans (by go_simp)
      have mf1 : w2.frozen? ⟨w1.heap.size, 1, none⟩ = false := (hf2 _ _ (by first | omega | (simp <;> omega))).trans (by go_simp)
      have m2 : w2.cell? ⟨w.heap.size + 1, 0, none⟩ = some (.int .i64 0) := (hc2 _ _ (by first | omega | (simp <;> omega))).trans (by go_simp)
      have mf2 : w2.frozen? ⟨w.heap.size + 1, 0, none⟩ = false := (hf2 _ _ (by first | omega | (simp <;> omega))).trans (by go_simp)
      have m3 : w2.cell? ⟨w.heap.size + 1, 1, none⟩ = some (.slice none 0 0) := (hc2 _ _ (by first | omega | (simp <;> omega))).trans (by go_simp)
      have mf3 : w2.frozen? ⟨w.heap.size + 1, 1, none⟩ = false := (hf2 _ _ (by first | omega | (simp <;> omega))).trans (by go_simp)
      have mt0 : w1.heap.size < w2.heap.size := (by omega)
      have mt1 : w1.heap.size < w2.heap.size + 1 := (by omega)
      have mt2 : w.heap.size + 1 < w2.heap.size := (by omega)
      have mt3 : w.heap.size + 1 < w2.heap.size + 1 := (by omega)
      clear hc2 hf2
      have HBD := Lib.hid (fun k' (hk' : (Value.slice Ad r.1.length cd).ownBlock = some k') => (show wr.heap.size + 1 ≤ k' ∧ k' < w2.heap.size by have := hod.block k' hk'; simp at this; omega))
      have HOD := Lib.hid (hod.lower (B' := w.heap.size) (by have := hbw.size; simp <;> omega))
      have HRP := Lib.hid hrp
      clear hod hrp hbp
      go_wp2_with fail
      go_region_law (refine step_append_rd (d := dk) (v := .slice Aa acc.length ca) (y := .slice Ap r.2.1.length cp) (xs := acc) (ys := r.2.1) rfl (.tmp 29) (.tmp 30) 27 rfl 39 i0 _ 32 w.heap.size Try.underlying27 hi hz0 hs0 hz2 rfl rfl (own_still HOA.out (by repeat (first | exact Below.refl _ _ | with_reducible apply bel_drew | with_reducible apply bel_drewN | with_reducible apply bel_alloc | (with_reducible refine bel_set ?_ (by first | omega | (simp <;> omega)) _) | (with_reducible refine bel_step ?_ (by assumption)) | (with_reducible refine bel_step ?_ (grown_none (by assumption)))))) rfl (rd_step HRP.out (by repeat (first | exact Below.refl _ _ | with_reducible apply bel_drew | with_reducible apply bel_drewN | with_reducible apply bel_alloc | (with_reducible refine bel_set ?_ (by first | omega | (simp <;> omega)) _) | (with_reducible refine bel_step ?_ (by assumption)) | (with_reducible refine bel_step ?_ (grown_none (by assumption)))))) (by omega) (by unfold maxLen; omega) (by first | omega | (simp <;> omega)) (acc.length + r.2.1.length) (by simp) ?_; intro A3 c3 w3 ho3 hg3 hat3; have hzz := hg3.size; (try simp at hzz); have q0 : w3.cell? ⟨w1.heap.size, 0, none⟩ = some (.int .i64 p) := ((grown_cell hg3 (by first | omega | (simp <;> omega)) (fun e => by have := HBA.out _ e; first | omega | (simp at this <;> omega))).1 _).trans (by go_simp); have qf0 : w3.frozen? ⟨w1.heap.size, 0, none⟩ = false := ((grown_cell hg3 (by first | omega | (simp <;> omega)) (fun e => by have := HBA.out _ e; first | omega | (simp at this <;> omega))).2 _).trans (by go_simp); have q1 : w3.cell? ⟨w1.heap.size, 1, none⟩ = some (.slice Ak xk.length ck) := ((grown_cell hg3 (by first | omega | (simp <;> omega)) (fun e => by have := HBA.out _ e; first | omega | (simp at this <;> omega))).1 _).trans (by go_simp); have qf1 : w3.frozen? ⟨w1.heap.size, 1, none⟩ = false := ((grown_cell hg3 (by first | omega | (simp <;> omega)) (fun e => by have := HBA.out _ e; first | omega | (simp at this <;> omega))).2 _).trans (by go_simp); have q2 : w3.cell? ⟨w.heap.size + 1, 0, none⟩ = some (.int .i64 0) := ((grown_cell hg3 (by first | omega | (simp <;> omega)) (fun e => by have := HBA.out _ e; first | omega | (simp at this <;> omega))).1 _).trans (by go_simp); have qf2 : w3.frozen? ⟨w.heap.size + 1, 0, none⟩ = false := ((grown_cell hg3 (by first | omega | (simp <;> omega)) (fun e => by have := HBA.out _ e; first | omega | (simp at this <;> omega))).2 _).trans (by go_simp); have q3 : w3.cell? ⟨w.heap.size + 1, 1, none⟩ = some (.slice none 0 0) := ((grown_cell hg3 (by first | omega | (simp <;> omega)) (fun e => by have := HBA.out _ e; first | omega | (simp at this <;> omega))).1 _).trans (by go_simp); have qf3 : w3.frozen? ⟨w.heap.size + 1, 1, none⟩ = false := ((grown_cell hg3 (by first | omega | (simp <;> omega)) (fun e => by have := HBA.out _ e; first | omega | (simp at this <;> omega))).2 _).trans (by go_simp); have q4 : w3.cell? ⟨w2.heap.size, 0, none⟩ = some (.int .i64 p) := ((grown_cell hg3 (by first | omega | (simp <;> omega)) (fun e => by have := HBA.out _ e; first | omega | (simp at this <;> omega))).1 _).trans (by go_simp); have qf4 : w3.frozen? ⟨w2.heap.size, 0, none⟩ = false := ((grown_cell hg3 (by first | omega | (simp <;> omega)) (fun e => by have := HBA.out _ e; first | omega | (simp at this <;> omega))).2 _).trans (by go_simp); have q5 : w3.cell? ⟨w2.heap.size, 1, none⟩ = some (.slice Ad r.1.length cd) := ((grown_cell hg3 (by first | omega | (simp <;> omega)) (fun e => by have := HBA.out _ e; first | omega | (simp at this <;> omega))).1 _).trans (by go_simp); have qf5 : w3.frozen? ⟨w2.heap.size, 1, none⟩ = false := ((grown_cell hg3 (by first | omega | (simp <;> omega)) (fun e => by have := HBA.out _ e; first | omega | (simp at this <;> omega))).2 _).trans (by go_simp); have qt0 : w1.heap.size < w3.heap.size := (by omega); have qt1 : w1.heap.size < w3.heap.size + 1 := (by omega); have qt2 : w.heap.size + 1 < w3.heap.size := (by omega); have qt3 : w.heap.size + 1 < w3.heap.size + 1 := (by omega); have qt4 : w2.heap.size < w3.heap.size := (by omega); have qt5 : w2.heap.size < w3.heap.size + 1 := (by omega); have HB3 := Lib.hid (show ∀ k', (Value.slice A3 (acc.length + r.2.1.length) c3).ownBlock = some k' → (w.heap.size + 2 ≤ k' ∧ k' ≠ w1.heap.size ∧ k' < w3.heap.size) from fun k' hk' => ⟨(block_at hat3 (fun k' => w.heap.size + 2 ≤ k' ∧ k' ≠ w1.heap.size) (fun k' hk' => by have := HBA.out k' hk'; omega) (by first | omega | (simp <;> omega)) k' hk').1, (block_at hat3 (fun k' => w.heap.size + 2 ≤ k' ∧ k' ≠ w1.heap.size) (fun k' hk' => by have := HBA.out k' hk'; omega) (by first | omega | (simp <;> omega)) k' hk').2, (ho3.block k' hk').2⟩); have HO3 := Lib.hid ho3; have HOD3 := Lib.hid (show Own dk 39 w3 w.heap.size (.slice Ad r.1.length cd) r.1 from own_past (own_still HOD.out (by repeat (first | exact Below.refl _ _ | with_reducible apply bel_drew | with_reducible apply bel_drewN | with_reducible apply bel_alloc | (with_reducible refine bel_set ?_ (by first | omega | (simp <;> omega)) _) | (with_reducible refine bel_step ?_ (by assumption)) | (with_reducible refine bel_step ?_ (grown_none (by assumption)))))) hg3 (fun k' hk' e => by have := HBA.out k' e; have := HBD.out k' hk'; omega)); have hb3 := bel_grown (W := w) (bel_step hbw (by repeat (first | exact Below.refl _ _ | with_reducible apply bel_drew | with_reducible apply bel_drewN | with_reducible apply bel_alloc | (with_reducible refine bel_set ?_ (by first | omega | (simp <;> omega)) _) | (with_reducible refine bel_step ?_ (by assumption)) | (with_reducible refine bel_step ?_ (grown_none (by assumption)))))) hg3 (fun k' hk' => by have := HBA.out k' hk'; omega); clear hat3 ho3 hg3)
      all_goals
        go_wp2
        go_roundw
        case rel =>
          refine ⟨k + 1, by omega, by go_num, ?_⟩
          rw [HNX2.out]
          refine ⟨Ad, cd, A3, c3, by rw [List.length_append], (by repeat (first | exact Below.refl _ _ | with_reducible apply bel_drew | with_reducible apply bel_drewN | with_reducible apply bel_alloc | (with_reducible refine bel_set ?_ (by first | omega | (simp <;> omega)) _) | (with_reducible refine bel_step ?_ (by assumption)) | (with_reducible refine bel_step ?_ (grown_none (by assumption))))), hB0, (by first | omega | (simp <;> omega)), by go_simp, by go_simp, by go_simp, by go_simp, by go_simp, by go_simp, by go_simp, by go_simp, (by (repeat (first | (with_reducible refine Own.setCell ?_ (fun k hk => by have := HBD.out k hk; simp <;> omega) _) | (with_reducible refine own_alloc ?_ _) | (with_reducible refine own_drew ?_) | (with_reducible refine own_drewN ?_ _))); exact HOD3.out), fun k' hk' => ?_, ?_, fun k' hk' => ?_⟩
          · have := HBD.out k' hk'; first | omega | (simp <;> omega)
          · rw [List.length_append]; exact (by (repeat (first | (with_reducible refine Own.setCell ?_ (fun k hk => by have := HB3.out k hk; simp <;> omega) _) | (with_reducible refine own_alloc ?_ _) | (with_reducible refine own_drew ?_) | (with_reducible refine own_drewN ?_ _))); exact HO3.out)
          · rw [List.length_append] at hk'; have := HB3.out k' hk'; first | omega | (simp <;> omega)
        case measure => simp [intOf]; omega
    · obtain rfl : k = hs.length := by omega
      rw [runTo_all] at hI
      generalize hgen : runR xs hs = s at hI
      have HG := Lib.hid hgen
      clear hgen
      obtain ⟨xk, acc⟩ := s
      dsimp only at hI
      obtain ⟨Ak, ck, Aa, ca, rfl, hbw, hB0, hB1, d0, d1, df0, df1, r0, r1, rf0, rf1, hoN, hobN, hoA, hobA⟩ := hI
      have HON := Lib.hid hoN
      have HBN := Lib.hid hobN
      have HOA := Lib.hid hoA
      have HBA := Lib.hid hobA
      clear hoN hobN hoA hobA bd
      go_wp2
      refine bodyPost_ret (v := .tuple #[.agg #[.int .i64 p, .slice Ak xk.length ck], .slice Aa acc.length ca]) (by simp [results, Try.results21, go_sem, *]) rfl ?_
      show RunIs _ _ _ _ (runR xs hs)
      rw [HG.out]
      exact ⟨Ak, ck, Aa, ca, rfl, (by (repeat (first | (with_reducible refine Own.setCell ?_ (fun k hk => by have := HBN.out k hk; simp <;> omega) _) | (with_reducible refine own_alloc ?_ _) | (with_reducible refine own_drew ?_) | (with_reducible refine own_drewN ?_ _))); exact HON.out), (by (repeat (first | (with_reducible refine Own.setCell ?_ (fun k hk => by have := HBA.out k hk; simp <;> omega) _) | (with_reducible refine own_alloc ?_ _) | (with_reducible refine own_drew ?_) | (with_reducible refine own_drewN ?_ _))); exact HOA.out), bel_set (bel_set hbw (by first | omega | (simp <;> omega)) _) (by first | omega | (simp <;> omega)) _⟩


set_option maxRecDepth 20000 in
set_option maxHeartbeats 4000000 in
theorem run_ref_none (p : Int) (A : Option Addr) (n c : Nat) (xs : List S39)  (w : World) (hr : Rd dk w (.slice A n c) xs) (hl : xs.length + 0 < 64) (hsh : Short xs) :
    Calls Try.prog 21 #[.agg #[.int .i64 p, .slice A n c], .slice none 0 0] w fun e w' => RunIs w e w' p (runR xs []) := by
  have hn := hr.len
  have hcap := hr.cap
  have H := Lib.hid hr
  have HS := Lib.hid hsh
  clear hr hsh
  subst hn
  obtain ⟨i0, hi, hz0, hs0, hz2⟩ := info_parts info39
  go_enter Try.func21, Try.ntmps21
  go_wp2_with fail
  refine (copyOf_any p A xs.length c xs _ (rd_step H.out (by repeat (first | exact Below.refl _ _ | with_reducible apply bel_drew | with_reducible apply bel_drewN | with_reducible apply bel_alloc | (with_reducible refine bel_set ?_ (by first | omega | (simp <;> omega)) _) | (with_reducible refine bel_step ?_ (by assumption)) | (with_reducible refine bel_step ?_ (grown_none (by assumption)))))) (by omega)).mono ?_
  rintro e w1 ⟨A1, c1, rfl, ho, hb⟩
  have hz := hb.size
  simp at hz
  obtain ⟨hc, hf⟩ := bcell hb
  have k0 : w1.cell? ⟨w.heap.size, 0, none⟩ = some (.int .i64 p) := (hc _ _ (by first | omega | (simp <;> omega))).trans (by go_simp)
  have kf0 : w1.frozen? ⟨w.heap.size, 0, none⟩ = false := (hf _ _ (by first | omega | (simp <;> omega))).trans (by go_simp)
  have k1 : w1.cell? ⟨w.heap.size, 1, none⟩ = some (.slice A xs.length c) := (hc _ _ (by first | omega | (simp <;> omega))).trans (by go_simp)
  have kf1 : w1.frozen? ⟨w.heap.size, 1, none⟩ = false := (hf _ _ (by first | omega | (simp <;> omega))).trans (by go_simp)
  have k2 : w1.cell? ⟨w.heap.size + 1, 0, none⟩ = some (.int .i64 0) := (hc _ _ (by first | omega | (simp <;> omega))).trans (by go_simp)
  have kf2 : w1.frozen? ⟨w.heap.size + 1, 0, none⟩ = false := (hf _ _ (by first | omega | (simp <;> omega))).trans (by go_simp)
  have k3 : w1.cell? ⟨w.heap.size + 1, 1, none⟩ = some (.slice none 0 0) := (hc _ _ (by first | omega | (simp <;> omega))).trans (by go_simp)
  have kf3 : w1.frozen? ⟨w.heap.size + 1, 1, none⟩ = false := (hf _ _ (by first | omega | (simp <;> omega))).trans (by go_simp)
  clear hc hf
  have lt0 : w.heap.size < w1.heap.size := (by omega)
  have lt1 : w.heap.size < w1.heap.size + 1 := (by omega)
  have lt2 : w.heap.size + 1 < w1.heap.size := (by omega)
  have lt3 : w.heap.size + 1 < w1.heap.size + 1 := (by omega)
  have HB := Lib.hid (fun k (hk : (Value.slice A1 xs.length c1).ownBlock = some k) => (show w.heap.size + 2 ≤ k ∧ k < w1.heap.size by have := ho.block k hk; simp at this; omega))
  have HO := Lib.hid (ho.lower (B' := w.heap.size) (by first | omega | (simp <;> omega)))
  clear ho
  go_wp2_with fail
  have start : RunI w w1.heap.size p (runTo xs ([] : List S34) 0).1 (runTo xs ([] : List S34) 0).2 (.slice none 0 0) (w1.alloc (Obj.cells #[.int .i64 p, .slice A1 xs.length c1] 29)) := by
    have e0 : runTo xs ([] : List S34) 0 = (xs, []) := rfl
    rw [e0]
    refine ⟨A1, c1, none, 0, rfl, (by repeat (first | exact Below.refl _ _ | with_reducible apply bel_drew | with_reducible apply bel_drewN | with_reducible apply bel_alloc | (with_reducible refine bel_set ?_ (by first | omega | (simp <;> omega)) _) | (with_reducible refine bel_step ?_ (by assumption)) | (with_reducible refine bel_step ?_ (grown_none (by assumption))))), (by first | omega | (simp <;> omega)), (by first | omega | (simp <;> omega)), by go_simp, by go_simp, by go_simp, by go_simp, by go_simp, by go_simp, by go_simp, by go_simp, own_alloc HO.out _, fun k hk => ?_, Own.nil _ _ _ _, fun k hk => by simp [Value.ownBlock] at hk⟩
    have := HB.out k hk
    simp <;> omega
  go_loopw [7, 17] (fun v i wr => ∃ k : Nat, k ≤ ([] : List S34).length ∧ i = .int .i64 k ∧ RunI w w1.heap.size p (runTo xs ([] : List S34) k).1 (runTo xs ([] : List S34) k).2 v wr) (fun _ i _ => ([] : List S34).length - (intOf i).toNat)
  case atStart => exact ⟨0, Nat.zero_le _, rfl, start⟩
  case round =>
    obtain ⟨k, hk, rfl, hI⟩ := hrel
    clear start
    have bd := runTo_bd xs ([] : List S34) k HS.out
    by_cases hlt : k < ([] : List S34).length
    · simp at hlt
    · obtain rfl : k = ([] : List S34).length := by omega
      rw [runTo_all] at hI
      generalize hgen : runR xs ([] : List S34) = s at hI
      have HG := Lib.hid hgen
      clear hgen
      obtain ⟨xk, acc⟩ := s
      dsimp only at hI
      obtain ⟨Ak, ck, Aa, ca, rfl, hbw, hB0, hB1, d0, d1, df0, df1, r0, r1, rf0, rf1, hoN, hobN, hoA, hobA⟩ := hI
      have HON := Lib.hid hoN
      have HBN := Lib.hid hobN
      have HOA := Lib.hid hoA
      have HBA := Lib.hid hobA
      clear hoN hobN hoA hobA bd
      go_wp2
      refine bodyPost_ret (v := .tuple #[.agg #[.int .i64 p, .slice Ak xk.length ck], .slice Aa acc.length ca]) (by simp [results, Try.results21, go_sem, *]) rfl ?_
      show RunIs _ _ _ _ (runR xs ([] : List S34))
      rw [HG.out]
      exact ⟨Ak, ck, Aa, ca, rfl, (by (repeat (first | (with_reducible refine Own.setCell ?_ (fun k hk => by have := HBN.out k hk; simp <;> omega) _) | (with_reducible refine own_alloc ?_ _) | (with_reducible refine own_drew ?_) | (with_reducible refine own_drewN ?_ _))); exact HON.out), (by (repeat (first | (with_reducible refine Own.setCell ?_ (fun k hk => by have := HBA.out k hk; simp <;> omega) _) | (with_reducible refine own_alloc ?_ _) | (with_reducible refine own_drew ?_) | (with_reducible refine own_drewN ?_ _))); exact HOA.out), bel_set (bel_set hbw (by first | omega | (simp <;> omega)) _) (by first | omega | (simp <;> omega)) _⟩


theorem run_ref (p : Int) (A : Option Addr) (n c : Nat) (xs : List S39) (Ah : Option Addr) (nh ch : Nat) (hs : List S34) (w : World) (hr : Rd dk w (.slice A n c) xs) (hr2 : Rd dh w (.slice Ah nh ch) hs) (hl : xs.length + hs.length < 64) (hsh : Short xs) :
    Calls Try.prog 21 #[.agg #[.int .i64 p, .slice A n c], .slice Ah nh ch] w fun e w' => RunIs w e w' p (runR xs hs) := by
  rcases hr2 with ⟨hv, rfl⟩ | ⟨gh, oh, ch', hv, h1⟩
  · rw [hv]; exact run_ref_none p A n c xs w hr (by simpa using hl) hsh
  · rw [hv]; exact run_ref_some p A n c xs gh oh ch' hs w hr (Or.inr ⟨gh, oh, ch', rfl, h1⟩) hl hsh
end Go.Proofs.Ytkcijghflaoccaa.Nw
