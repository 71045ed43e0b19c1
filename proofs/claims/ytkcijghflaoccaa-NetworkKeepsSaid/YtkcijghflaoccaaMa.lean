/- NetworkRuns: the walk. -/
import Derived.Test.YtkcijghflaoccaaNy
import Derived.Test.YtkcijghflaoccaaNz
import Derived.LoopTactic
import Derived.Deep.RegionHeld3
import Derived.Outline
namespace Go.Proofs.Ytkcijghflaoccaa.Nw
open Go.RowKit Go.Proofs.Ytkcijghflaoccaa.Ow Go.Proofs.Ytkcijghflaoccaa.PNetworkAll Go.Proofs.YtkcijghflaoccaaW.PrintWords
set_option linter.unusedVariables false
set_option linter.unusedSimpArgs false

set_option maxRecDepth 20000 in
set_option maxHeartbeats 1000000 in
theorem runs_long (A : Option Addr) (c : Nat) (l : List Int) (cut : Int) (w : World) (hr : Kd.C (Kd.int .i64) w A l.length l) (hc : l.length ≤ c) (hl : ¬ l.length ≤ 500) :
    Calls Try.prog 5 #[.slice A l.length c, .int .u8 cut] w fun e w' => e = .returned (.bool true) ∧ Below w.heap.size w w' := by
  have hd : decide ((l.length : Int) ≤ 500) = false := decide_eq_false (by omega)
  have HR := Lib.hid hr
  clear hr
  go_enter Try.func5, Try.ntmps5
  go_wp2_with (first | (go_at_call 7; refine (light_any A c l _ (Kd.C_below HR.out (by repeat (first | exact Below.refl _ _ | with_reducible apply bel_drew | with_reducible apply bel_drewN | with_reducible apply bel_alloc | (with_reducible refine bel_set ?_ (by first | omega | (simp <;> omega)) _) | (with_reducible refine bel_step ?_ (by assumption)) | (with_reducible refine bel_step ?_ (grown_none (by assumption)))))) hc).mono ?_; rintro e w1 ⟨rfl, hb1⟩) | (go_at_call 8; refine (awake_any _).mono ?_; rintro e w2 ⟨rfl, hb2⟩))
  go_ret
  exact ⟨rfl, (by repeat (first | exact Below.refl _ _ | with_reducible apply bel_drew | with_reducible apply bel_drewN | with_reducible apply bel_alloc | (with_reducible refine bel_set ?_ (by first | omega | (simp <;> omega)) _) | (with_reducible refine bel_step ?_ (by assumption)) | (with_reducible refine bel_step ?_ (grown_none (by assumption)))))⟩

/-- What a run leaves, for later worlds. -/
def Later (w0 w1 : World) (A : Option Addr) (c : Nat) (xs : List S39) : Prop := ∀ W, Below w1.heap.size w1 W → Own dk 39 W w0.heap.size (.slice A xs.length c) xs
theorem later_of {w0 w w1 : World} {A : Option Addr} {c : Nat} {xs : List S39} (h : Own dk 39 w1 w.heap.size (.slice A xs.length c) xs) (hs : w0.heap.size ≤ w.heap.size) : Later w0 w1 A c xs := fun W hb => own_still (h.lower hs) hb
theorem Later.rd {w0 w1 : World} {A : Option Addr} {c : Nat} {xs : List S39} (h : Later w0 w1 A c xs) {W : World} (hb : Below w1.heap.size w1 W) : Rd dk W (.slice A xs.length c) xs := (h W hb).rd
/-- What the loop keeps: the network's variable lies at B. -/
def DelI (w : World) (B : Nat) (p : Int) (xk acc : List S39) (v : Value) (wr : World) : Prop :=
  ∃ Ak ck Aa ca, v = .slice Aa acc.length ca ∧ Below w.heap.size w wr ∧ w.heap.size ≤ B ∧ B < wr.heap.size ∧
    wr.cell? ⟨B, 0, none⟩ = some (.int .i64 p) ∧ wr.cell? ⟨B, 1, none⟩ = some (.slice Ak xk.length ck) ∧ wr.frozen? ⟨B, 0, none⟩ = false ∧ wr.frozen? ⟨B, 1, none⟩ = false ∧
    Own dk 39 wr w.heap.size (.slice Ak xk.length ck) xk ∧ (∀ k, (Value.slice Ak xk.length ck).ownBlock = some k → k ≠ B ∧ k < wr.heap.size ∧ w.heap.size ≤ k) ∧
    Own dk 39 wr w.heap.size (.slice Aa acc.length ca) acc ∧ (∀ k, (Value.slice Aa acc.length ca).ownBlock = some k → k ≠ B ∧ k < wr.heap.size ∧ w.heap.size ≤ k)
/-- What a run into two new variables leaves: the network's variable at B. -/
def RunCut (w : World) (p : Int) (r : List S39 × List S39) (s t : Value) (wx : World) : Prop :=
  ∃ B A c A' c', s = .pointer (some ⟨B, 0, none⟩) ∧ t = .slice A' r.2.length c' ∧ Below w.heap.size w wx ∧ w.heap.size ≤ B ∧ B < wx.heap.size ∧ wx.cell? ⟨B, 0, none⟩ = some (.int .i64 p) ∧ wx.cell? ⟨B, 1, none⟩ = some (.slice A r.1.length c) ∧
    Own dk 39 wx w.heap.size (.slice A r.1.length c) r.1 ∧ Own dk 39 wx w.heap.size (.slice A' r.2.length c') r.2 ∧
    wx.frozen? ⟨B, 0, none⟩ = false ∧ wx.frozen? ⟨B, 1, none⟩ = false ∧ (∀ k, (Value.slice A r.1.length c).ownBlock = some k → k ≠ B) ∧ (∀ k, (Value.slice A' r.2.length c').ownBlock = some k → k ≠ B)
theorem le_al (w : World) (o : Obj) : w.heap.size ≤ (w.alloc o).heap.size := by simp
theorem runcut_new {w w6 : World} {p : Int} {r : List S39 × List S39} {A A' : Option Addr} {c c' : Nat} (hb : Below w.heap.size w w6) (ho : Own dk 39 w6 w.heap.size (.slice A r.1.length c) r.1) (ho' : Own dk 39 w6 w.heap.size (.slice A' r.2.length c') r.2) :
    RunCut w p r (.pointer (some ⟨w6.heap.size, 0, none⟩)) (.slice A' r.2.length c') (w6.alloc (.cells #[.int .i64 p, .slice A r.1.length c] 29)) :=
  ⟨_, A, c, A', c', rfl, rfl, bel_alloc hb _, hb.size, by simp, by go_simp, by go_simp, Ow.own_alloc ho _, Ow.own_alloc ho' _, by go_simp, by go_simp, fun k hk => by have := (ho.block k hk).2; omega, fun k hk => by have := (ho'.block k hk).2; omega⟩
theorem RunCut.back {w w' wx : World} {p : Int} {r : List S39 × List S39} {s t : Value} (h : RunCut w' p r s t wx) (hb : Below w.heap.size w w') : RunCut w p r s t wx := by
  obtain ⟨B, A, c, A', c', h1, h2, h3, h4, h5, h6, h7, h8, h9, h10⟩ := h
  exact ⟨B, A, c, A', c', h1, h2, bel_step hb h3, Nat.le_trans hb.size h4, h5, h6, h7, h8.lower hb.size, h9.lower hb.size, h10⟩
theorem runcut_old {w w6 : World} {p : Int} {r : List S39 × List S39} {A A' : Option Addr} {c c' : Nat} (hb : Below (w.alloc (.cells #[.int .i64 0, .slice none 0 0] 29)).heap.size (w.alloc (.cells #[.int .i64 0, .slice none 0 0] 29)) w6)
    (ho : Own dk 39 w6 (w.alloc (.cells #[.int .i64 0, .slice none 0 0] 29)).heap.size (.slice A r.1.length c) r.1) (ho' : Own dk 39 w6 (w.alloc (.cells #[.int .i64 0, .slice none 0 0] 29)).heap.size (.slice A' r.2.length c') r.2) :
    RunCut w p r (.pointer (some ⟨w.heap.size, 0, none⟩)) (.slice A' r.2.length c') ((w6.setCell ⟨w.heap.size, 0, none⟩ (.int .i64 p)).setCell ⟨w.heap.size, 1, none⟩ (.slice A r.1.length c)) := by
  have hz := hb.size
  simp at hz
  obtain ⟨hc, hf⟩ := bcell hb
  have lt : w.heap.size < w6.heap.size := by omega
  have k0 : w6.cell? ⟨w.heap.size, 0, none⟩ = some (.int .i64 0) := (hc _ _ (by first | omega | (simp <;> omega))).trans (by go_simp)
  have kf0 : w6.frozen? ⟨w.heap.size, 0, none⟩ = false := (hf _ _ (by first | omega | (simp <;> omega))).trans (by go_simp)
  have k1 : w6.cell? ⟨w.heap.size, 1, none⟩ = some (.slice none 0 0) := (hc _ _ (by first | omega | (simp <;> omega))).trans (by go_simp)
  have kf1 : w6.frozen? ⟨w.heap.size, 1, none⟩ = false := (hf _ _ (by first | omega | (simp <;> omega))).trans (by go_simp)
  have b1 : ∀ k, (Value.slice A r.1.length c).ownBlock = some k → k ≠ w.heap.size := fun k hk => by have := (ho.block k hk).1; simp at this; omega
  have b2 : ∀ k, (Value.slice A' r.2.length c').ownBlock = some k → k ≠ w.heap.size := fun k hk => by have := (ho'.block k hk).1; simp at this; omega
  refine ⟨_, A, c, A', c', rfl, rfl, bel_set (bel_set (bel_step (bel_alloc (Below.refl _ _) _) hb) (Nat.le_refl _) _) (Nat.le_refl _) _, Nat.le_refl _, by simp; omega, by go_simp, by go_simp, ?_, ?_, by go_simp, by go_simp, b1, b2⟩
  · exact ((ho.lower (by simp)).setCell b1 _).setCell b1 _
  · exact ((ho'.lower (by simp)).setCell b2 _).setCell b2 _
def LaterH (w1 : World) (A : Option Addr) (c : Nat) (hs : List S34) : Prop := ∀ W, Below w1.heap.size w1 W → Rd dh W (.slice A hs.length c) hs
theorem LaterH.rd {w1 : World} {A : Option Addr} {c : Nat} {hs : List S34} (h : LaterH w1 A c hs) {W : World} (hb : Below w1.heap.size w1 W) : Rd dh W (.slice A hs.length c) hs := h W hb
theorem rd_head {w : World} {A : Option Addr} {c k : Nat} {hs : List S34} (h : Rd dh w (.slice A hs.length c) hs) (hk : k ≤ hs.length) : Rd dh w (.slice A k c) (hs.take k) := by
  have h := h.sliced (lo := 0) (hi := k) (by omega) hk
  have e : (if c = 0 then A else A.map (fun x => x.add 0)) = A := by split <;> first | rfl | (cases A <;> simp [Addr.add_zero'])
  simp only [Go.sliced, Nat.zero_mul, Nat.sub_zero, List.drop_zero, e] at h
  exact h
theorem rd_zero {w : World} {b o : Nat} (h : b < w.heap.size) : Rd dh w (.slice (some ⟨b, o, none⟩) 0 0) [] := Or.inr ⟨b, o, 0, rfl, Nat.le_refl _, by unfold maxLen; omega, h, fun j u hj => by simp [flat] at hj⟩
theorem make_none (W : World) : (Instr.makeSlice 31 (.int .i64 0) (.int .i64 0)).run Try.prog W = .ok (.slice (some ⟨W.heap.size, 0, none⟩) 0 0) (W.alloc (.cells #[] 34)) := by
  first
  | kernel_rfl
  | (obtain ⟨i, hi, hz, hs, hb⟩ := info_parts info34
     have h := run_make W 31 34 i _ Try.underlying31 hi hz .i64 .i64 0 0 (by omega) (by omega) (by omega) (by omega)
     simpa [madeCells] using h)
theorem wpList_append_rd_g {P : Program} {w : World} {ops : Array Oper} {rest : List Oper} {o : Oper} {a : Act} {Q : Exit → Act → World → Prop} (hw : Region.wanted o (yielded ops a.tmps) = true) (s x : Operand) (t : TypeId)
    (ho : o.op = .call { callee := .builtin .append, args := #[s, x], argTypes := #[t, t] })
    (e : TypeId) (i : TypeInfo) (z : Value) (bytes B : Nat) (ht : P.underlying t = some (.slice e)) (hi : P.info? e = some i) (hz : i.zero = some z)
    (hsize : i.size = dk.sz) (hby : i.bytes = bytes) (hzs : z.cells.size = dk.sz) {v y : Value} {xs ys : List S39} (hs : a.eval s = v) (hown : Own dk e w B v xs) (hx : a.eval x = y) (hr : Rd dk w y ys)
    (hb : (xs.length + ys.length) * bytes ≤ 140737488355328) (hl : xs.length + ys.length ≤ maxLen) (hB : B ≤ w.heap.size)
    (m : Nat) (hm : (xs ++ ys).length = m)
    (h : ∀ A' c' w', Own dk e w' B (.slice A' m c') (xs ++ ys) → w.grownBy w' v.ownBlock → ((Value.slice A' m c').ownBlock = v.ownBlock ∨ (Value.slice A' m c').ownBlock = some w.heap.size) → wpList P ops Q rest (a.put o.dst (.slice A' m c')) w') :
    wpList P ops Q (o :: rest) a w := by
  subst hm
  refine wpList_step fun K hK => ?_
  rw [if_pos hw]
  obtain ⟨v', w', hrun, h2, h3, h4⟩ := run_append_rd (P := P) w t o.type e i z bytes B ht hi hz hsize hby hzs hown hr hb hl hB
  obtain ⟨A', c', rfl⟩ := h2.rd.form
  unfold Oper.wp execOp
  simp only [ho, resolve, invoke, builtin, Sem.run_bind, Sem.run_pure, Result.andThen_ok, List.map_toArray, List.map_cons, List.map_nil, hs, hx, hrun]
  exact hK _ _ (h A' c' w' h2 h3 h4)
theorem rd_tail {w : World} {A : Option Addr} {c k : Nat} {hs : List S34} (h : Rd dh w (.slice A hs.length c) hs) (hk : k ≤ hs.length) : Rd dh w (.slice (if c = k then A else A.map (fun x => x.add (k * 4))) (hs.length - k) (c - k)) (hs.drop k) := by
  have h := h.sliced (lo := k) (hi := hs.length) hk (by omega)
  rw [List.take_length] at h
  exact h
theorem own_but {w w' : World} {B g : Nat} {v : Value} {xs : List S39} (h : Own dk 39 w B v xs) (hb : But w w' g) (hne : ∀ k, v.ownBlock = some k → k ≠ g) : Own dk 39 w' B v xs :=
  h.moved fun k hk => hb.2 k (h.block k hk).2 (hne k hk)

set_option maxRecDepth 20000 in
set_option maxHeartbeats 4000000 in
theorem runs_short (A : Option Addr) (c : Nat) (l : List Int) (cut : Int) (w : World) (hr : Kd.C (Kd.int .i64) w A l.length l) (hc : l.length ≤ c) (hl : l.length ≤ 500) (h0 : 0 ≤ cut) (h1 : cut ≤ 255) :
    Calls Try.prog 5 #[.slice A l.length c, .int .u8 cut] w fun e w' => e = .returned (.bool true) ∧ Below w.heap.size w w' := by
  have hd : decide ((l.length : Int) ≤ 500) = true := decide_eq_true (by omega)
  have HR := Lib.hid hr
  clear hr
  obtain ⟨i0, hi, hz0, hs0, hz2⟩ := info_parts info39
  go_enter Try.func5, Try.ntmps5
  go_wp2_with (first | (go_at_call 7; refine (light_any A c l _ (Kd.C_below HR.out (by repeat (first | exact Below.refl _ _ | with_reducible apply bel_drew | with_reducible apply bel_drewN | with_reducible apply bel_alloc | (with_reducible refine bel_set ?_ (by first | omega | (simp <;> omega)) _) | (with_reducible refine bel_step ?_ (by assumption)) | (with_reducible refine bel_step ?_ (grown_none (by assumption)))))) hc).mono ?_; rintro e w1 ⟨rfl, hb1⟩) | (go_at_call 9; refine (roll_any A c l _ (Kd.C_below HR.out (by repeat (first | exact Below.refl _ _ | with_reducible apply bel_drew | with_reducible apply bel_drewN | with_reducible apply bel_alloc | (with_reducible refine bel_set ?_ (by first | omega | (simp <;> omega)) _) | (with_reducible refine bel_step ?_ (by assumption)) | (with_reducible refine bel_step ?_ (grown_none (by assumption)))))) hc hl).mono ?_; rintro e w2 ⟨g, rfl, hdi, hb2⟩) | fail)
  refine (packets_any g l 0 w1 w2 hdi).mono ?_
  rintro e w3 ⟨p, A1, cp, xs, j, rfl, ho, hdi3, hbut, hp1, hp3, hxl, hfit⟩
  have HSH := Lib.hid hfit.short
  have hgl := hdi.lt
  have hs13 := hb1.size
  have hs12 := hb2.size
  have hs23 := hbut.1
  have HB := Lib.hid ho.block
  have HO := Lib.hid ho
  have HDI := Lib.hid hdi3
  clear ho hdi hdi3 hfit hbut
  go_wp2_with fail
  refine (happen_any g l j w1 _ (HDI.out.step (by repeat (first | exact Below.refl _ _ | with_reducible apply bel_drew | with_reducible apply bel_drewN | with_reducible apply bel_alloc | (with_reducible refine bel_set ?_ (by first | omega | (simp <;> omega)) _) | (with_reducible refine bel_step ?_ (by assumption)) | (with_reducible refine bel_step ?_ (grown_none (by assumption))))))).mono ?_
  rintro e w4 ⟨Ah, ch, hs, j2, rfl, hoh, hdi4, hbut4, hhl, hkinds⟩
  have HW4 : Below w.heap.size w w4 := bel_step hb1 hdi4.2.2
  have hz4 := hbut4.1
  simp at hz4
  have k0 : w4.cell? ⟨w3.heap.size, 0, none⟩ = some (.int .i64 p) := ((hbut4.cell (by simp <;> omega) (by omega)).1 _).trans (by go_simp)
  have k1 : w4.cell? ⟨w3.heap.size, 1, none⟩ = some (.slice A1 xs.length cp) := ((hbut4.cell (by simp <;> omega) (by omega)).1 _).trans (by go_simp)
  have gk3 : (hs.length : Int) ≤ ch := by have := hoh.rd.cap; omega
  have HX := Lib.hid (show Later w w4 A1 cp xs from later_of (own_but (own_still HO.out (by repeat (first | exact Below.refl _ _ | with_reducible apply bel_drew | with_reducible apply bel_drewN | with_reducible apply bel_alloc | (with_reducible refine bel_set ?_ (by first | omega | (simp <;> omega)) _) | (with_reducible refine bel_step ?_ (by assumption)) | (with_reducible refine bel_step ?_ (grown_none (by assumption)))))) hbut4 (fun k hk => by have := HB.out k hk; omega)) (by omega))
  have HH := Lib.hid (show LaterH w4 Ah ch hs from fun W hb => rd_step hoh.rd hb)
  have lt0 : w3.heap.size < w4.heap.size := by omega
  have lt1 : w3.heap.size < w4.heap.size + 1 := by omega
  clear hdi4 hbut4 hoh hz4 HDI HO HB
  go_wp2_with fail
  obtain ⟨k, hk⟩ := Int.eq_ofNat_of_zero_le (Int.emod_nonneg cut (show (hs.length : Int) + 1 ≠ 0 by omega))
  have hk2 := Int.emod_lt_of_pos cut (show (0 : Int) < (hs.length : Int) + 1 by omega)
  rw [hk] at hk2 ⊢
  have hk3 : k ≤ hs.length := by omega
  have gk0 : (0 : Int) ≤ k := by omega
  have gk1 : (k : Int) ≤ hs.length := by omega
  have gk2 : (k : Int) ≤ ch := by omega
  clear hk hk2 h0 h1
  have HSX := Lib.hid hkinds
  clear hkinds
  have bda := runR_bd xs hs HSH.out
  have bdb := runR_bd xs (hs.take k) HSH.out
  have hkt : (hs.take k).length = k := by simp; omega
  have hdt : (hs.drop k).length = hs.length - k := by simp
  rw [hkt] at bdb
  have bdc := runR_bd (runR xs (hs.take k)).1 (hs.drop k) bdb.2.2.1
  rw [hdt] at bdc
  have HCUT := Lib.hid (runR_cut xs hs k)
  refine (run_any p A1 xs.length cp xs Ah hs.length ch hs _ (HX.out.rd (by repeat (first | exact Below.refl _ _ | with_reducible apply bel_drew | with_reducible apply bel_drewN | with_reducible apply bel_alloc | (with_reducible refine bel_set ?_ (by first | omega | (simp <;> omega)) _) | (with_reducible refine bel_step ?_ (by assumption)) | (with_reducible refine bel_step ?_ (grown_none (by assumption)))))) (HH.out.rd (by repeat (first | exact Below.refl _ _ | with_reducible apply bel_drew | with_reducible apply bel_drewN | with_reducible apply bel_alloc | (with_reducible refine bel_set ?_ (by first | omega | (simp <;> omega)) _) | (with_reducible refine bel_step ?_ (by assumption)) | (with_reducible refine bel_step ?_ (grown_none (by assumption)))))) (by omega) HSH.out).mono ?_
  rintro e w5 ⟨A5, c5, A5', c5', rfl, ho5, ho5', hb5⟩
  have HRA := Lib.hid (fun (W : World) (h1 : Rd dk W (.slice A1 xs.length cp) xs) (h2 : Rd dh W (.slice Ah k ch) (hs.take k)) => run_any p A1 xs.length cp xs Ah k ch (hs.take k) W h1 h2 (by rw [hkt]; omega) HSH.out)
  have HRB := Lib.hid (fun (W : World) (A6 : Option Addr) (c6 : Nat) (h1 : Rd dk W (.slice A6 (runR xs (hs.take k)).1.length c6) (runR xs (hs.take k)).1) (h2 : Below w4.heap.size w4 W) => run_any p A6 _ c6 _ _ (hs.length - k) (ch - k) (hs.drop k) W h1 (rd_tail (HH.out.rd h2) hk3) (by rw [hdt]; omega) bdb.2.2.1)
  generalize runR xs hs = ra at *
  generalize hrb : runR xs (hs.take k) = rb at *
  generalize runR rb.1 (hs.drop k) = rc at *
  have HSA := Lib.hid bda.2.2
  have HSB := Lib.hid bdb.2.2
  have la1 := bda.1
  have la2 := bda.2.1
  have lb1 := bdb.1
  have lb2 := bdb.2.1
  have lc1 := bdc.1
  have lc2 := bdc.2.1
  clear bda bdb bdc hkt hdt
  have hz5 := hb5.size
  obtain ⟨hc5, hf5⟩ := bcell hb5
  have HX5 := Lib.hid (show Later w w5 A5 c5 ra.1 from later_of ho5 (by have := HW4.size; omega))
  have HP5 := Lib.hid (show Later w w5 A5' c5' ra.2 from later_of ho5' (by have := HW4.size; omega))
  have m0 : w5.cell? ⟨w3.heap.size, 0, none⟩ = some (.int .i64 p) := (hc5 _ _ (by first | omega | (simp <;> omega))).trans (by go_simp)
  have m1 : w5.cell? ⟨w3.heap.size, 1, none⟩ = some (.slice A1 xs.length cp) := (hc5 _ _ (by first | omega | (simp <;> omega))).trans (by go_simp)
  have mt0 : w3.heap.size < w5.heap.size := by omega
  have mt1 : w3.heap.size < w5.heap.size + 1 := by omega
  clear hc5 hf5 ho5 ho5' k0 k1 lt0 lt1
  go_wp2_with fail
  have hbW : Below w5.heap.size w5 (w5.alloc (.cells #[.int .i64 p, .slice A5 ra.1.length c5] 29)) := (by repeat (first | exact Below.refl _ _ | with_reducible apply bel_drew | with_reducible apply bel_drewN | with_reducible apply bel_alloc | (with_reducible refine bel_set ?_ (by first | omega | (simp <;> omega)) _) | (with_reducible refine bel_step ?_ (by assumption)) | (with_reducible refine bel_step ?_ (grown_none (by assumption)))))
  have q0 : (w5.alloc (.cells #[.int .i64 p, .slice A5 ra.1.length c5] 29)).cell? ⟨w3.heap.size, 0, none⟩ = some (.int .i64 p) := by go_simp
  have q1 : (w5.alloc (.cells #[.int .i64 p, .slice A5 ra.1.length c5] 29)).cell? ⟨w3.heap.size, 1, none⟩ = some (.slice A1 xs.length cp) := by go_simp
  have q2 : (w5.alloc (.cells #[.int .i64 p, .slice A5 ra.1.length c5] 29)).cell? ⟨w5.heap.size, 0, none⟩ = some (.int .i64 p) := by go_simp
  have q3 : (w5.alloc (.cells #[.int .i64 p, .slice A5 ra.1.length c5] 29)).cell? ⟨w5.heap.size, 1, none⟩ = some (.slice A5 ra.1.length c5) := by go_simp
  have hzW : (w5.alloc (.cells #[.int .i64 p, .slice A5 ra.1.length c5] 29)).heap.size = w5.heap.size + 1 := by simp
  generalize (w5.alloc (.cells #[.int .i64 p, .slice A5 ra.1.length c5] 29)) = W5 at *
  have n0 : w3.heap.size < W5.heap.size := by omega
  have n1 : w3.heap.size < W5.heap.size + 1 := by omega
  have n2 : w5.heap.size < W5.heap.size := by omega
  have n3 : w5.heap.size < W5.heap.size + 1 := by omega
  clear m0 m1 mt0 mt1 hzW
  go_cut [11, 12] from 42 to 49 (fun s t wx => RunCut W5 p rb s t wx)
  case first =>
    go_region_law (first | (go_simp; go_at_call 20; (with_reducible refine (HRA.out _ (HX.out.rd (by repeat (first | exact Below.refl _ _ | with_reducible apply bel_drew | with_reducible apply bel_drewN | with_reducible apply bel_alloc | (with_reducible refine bel_set ?_ (by first | omega | (simp <;> omega)) _) | (with_reducible refine bel_step ?_ (by assumption)) | (with_reducible refine bel_step ?_ (grown_none (by assumption)))))) (rd_head (HH.out.rd (by repeat (first | exact Below.refl _ _ | with_reducible apply bel_drew | with_reducible apply bel_drewN | with_reducible apply bel_alloc | (with_reducible refine bel_set ?_ (by first | omega | (simp <;> omega)) _) | (with_reducible refine bel_step ?_ (by assumption)) | (with_reducible refine bel_step ?_ (grown_none (by assumption)))))) hk3)).mono ?_); rintro e w6 ⟨A6, c6, A6', c6', rfl, ho6, ho6', hb6⟩; have hz6 := hb6.size; (try simp at hz6); obtain ⟨hc6, hf6⟩ := bcell hb6; have y0 : w6.cell? ⟨w3.heap.size, 0, none⟩ = some (.int .i64 p) := (hc6 _ _ (by first | omega | (simp <;> omega))).trans (by go_simp); have y1 : w6.cell? ⟨w3.heap.size, 1, none⟩ = some (.slice A1 xs.length cp) := (hc6 _ _ (by first | omega | (simp <;> omega))).trans (by go_simp); have l0 : w3.heap.size < w6.heap.size := (by omega); have l1 : w3.heap.size < w6.heap.size + 1 := (by omega)))
    all_goals
      go_wp2_with fail
      go_meet
      case rel => first | exact runcut_new (by repeat (first | exact Below.refl _ _ | with_reducible apply bel_drew | with_reducible apply bel_drewN | with_reducible apply bel_alloc | (with_reducible refine bel_set ?_ (by first | omega | (simp <;> omega)) _) | (with_reducible refine bel_step ?_ (by assumption)) | (with_reducible refine bel_step ?_ (grown_none (by assumption))))) ho6 ho6' | exact runcut_old (by repeat (first | exact Below.refl _ _ | with_reducible apply bel_drew | with_reducible apply bel_drewN | with_reducible apply bel_alloc | (with_reducible refine bel_set ?_ (by first | omega | (simp <;> omega)) _) | (with_reducible refine bel_step ?_ (by assumption)) | (with_reducible refine bel_step ?_ (grown_none (by assumption))))) ho6 ho6'
  case rest =>
    obtain ⟨B6, A6, c6, A6', c6', rfl, rfl, hb6, hB6, hB6', e0, e1, ho6, ho6', hx⟩ := hcut
    clear hx
    have HX6 := Lib.hid (show Later w wc A6 c6 rb.1 from later_of ho6 (by have := HW4.size; have := hbW.size; omega))
    have HP6 := Lib.hid (show Later w wc A6' c6' rb.2 from later_of ho6' (by have := HW4.size; have := hbW.size; omega))
    have hz6 := hb6.size
    obtain ⟨hc6, hf6⟩ := bcell hb6
    have s0 := (hc6 _ 0 n0).trans q0
    have s1 := (hc6 _ 1 n0).trans q1
    have s2 := (hc6 _ 0 n2).trans q2
    have s3 := (hc6 _ 1 n2).trans q3
    have o0 : w3.heap.size < wc.heap.size := by omega
    have o1 : w3.heap.size < wc.heap.size + 1 := by omega
    have o2 : w5.heap.size < wc.heap.size := by omega
    have o3 : w5.heap.size < wc.heap.size + 1 := by omega
    have o4 : B6 < wc.heap.size + 1 := by omega
    have HN := Lib.hid (show w5.heap.size < W5.heap.size ∧ W5.heap.size ≤ B6 from ⟨n2, hB6⟩)
    clear q0 q1 q2 q3 n0 n1 n2 n3 hc6 hf6 ho6 ho6' hB6
    generalize wc = W6 at *
    go_wp2_with fail
    go_cut [13, 14] from 50 to 57 (fun s t wx => RunCut W6 p rc s t wx)
    case first =>
      by_cases hck : ch = k
      · subst hck
        simp only [if_true, eq_self, Nat.sub_self] at HRB
        go_region_law (first | (go_simp; go_at_call 20; (with_reducible refine (HRB.out _ A6 c6 (HX6.out.rd (by repeat (first | exact Below.refl _ _ | with_reducible apply bel_drew | with_reducible apply bel_drewN | with_reducible apply bel_alloc | (with_reducible refine bel_set ?_ (by first | omega | (simp <;> omega)) _) | (with_reducible refine bel_step ?_ (by assumption)) | (with_reducible refine bel_step ?_ (grown_none (by assumption)))))) (by repeat (first | exact Below.refl _ _ | with_reducible apply bel_drew | with_reducible apply bel_drewN | with_reducible apply bel_alloc | (with_reducible refine bel_set ?_ (by first | omega | (simp <;> omega)) _) | (with_reducible refine bel_step ?_ (by assumption)) | (with_reducible refine bel_step ?_ (grown_none (by assumption)))))).mono ?_); rintro e w6 ⟨A7, c7, A7', c7', rfl, ho7, ho7', hb7⟩; have hz7 := hb7.size; (try simp at hz7); obtain ⟨hc7, hf7⟩ := bcell hb7))
        all_goals
          go_wp2_with fail
          go_meet
          case rel => first | exact runcut_new (by repeat (first | exact Below.refl _ _ | with_reducible apply bel_drew | with_reducible apply bel_drewN | with_reducible apply bel_alloc | (with_reducible refine bel_set ?_ (by first | omega | (simp <;> omega)) _) | (with_reducible refine bel_step ?_ (by assumption)) | (with_reducible refine bel_step ?_ (grown_none (by assumption))))) ho7 ho7' | exact runcut_old (by repeat (first | exact Below.refl _ _ | with_reducible apply bel_drew | with_reducible apply bel_drewN | with_reducible apply bel_alloc | (with_reducible refine bel_set ?_ (by first | omega | (simp <;> omega)) _) | (with_reducible refine bel_step ?_ (by assumption)) | (with_reducible refine bel_step ?_ (grown_none (by assumption))))) ho7 ho7'
      · simp only [if_neg hck] at HRB
        go_region_law (first | (go_simp; go_at_call 20; (with_reducible refine (HRB.out _ A6 c6 (HX6.out.rd (by repeat (first | exact Below.refl _ _ | with_reducible apply bel_drew | with_reducible apply bel_drewN | with_reducible apply bel_alloc | (with_reducible refine bel_set ?_ (by first | omega | (simp <;> omega)) _) | (with_reducible refine bel_step ?_ (by assumption)) | (with_reducible refine bel_step ?_ (grown_none (by assumption)))))) (by repeat (first | exact Below.refl _ _ | with_reducible apply bel_drew | with_reducible apply bel_drewN | with_reducible apply bel_alloc | (with_reducible refine bel_set ?_ (by first | omega | (simp <;> omega)) _) | (with_reducible refine bel_step ?_ (by assumption)) | (with_reducible refine bel_step ?_ (grown_none (by assumption)))))).mono ?_); rintro e w6 ⟨A7, c7, A7', c7', rfl, ho7, ho7', hb7⟩; have hz7 := hb7.size; (try simp at hz7); obtain ⟨hc7, hf7⟩ := bcell hb7))
        all_goals
          go_wp2_with fail
          go_meet
          case rel => first | exact runcut_new (by repeat (first | exact Below.refl _ _ | with_reducible apply bel_drew | with_reducible apply bel_drewN | with_reducible apply bel_alloc | (with_reducible refine bel_set ?_ (by first | omega | (simp <;> omega)) _) | (with_reducible refine bel_step ?_ (by assumption)) | (with_reducible refine bel_step ?_ (grown_none (by assumption))))) ho7 ho7' | exact runcut_old (by repeat (first | exact Below.refl _ _ | with_reducible apply bel_drew | with_reducible apply bel_drewN | with_reducible apply bel_alloc | (with_reducible refine bel_set ?_ (by first | omega | (simp <;> omega)) _) | (with_reducible refine bel_step ?_ (by assumption)) | (with_reducible refine bel_step ?_ (grown_none (by assumption))))) ho7 ho7'
    case rest =>
      obtain ⟨B7, A7, c7, A7', c7', rfl, rfl, hb7, hB7, hB7', e2, e3, ho7, ho7', hx⟩ := hcut
      clear hx
      have HX7 := Lib.hid (show Later w wc A7 c7 rc.1 from later_of ho7 (by have := HW4.size; have := hbW.size; omega))
      have HP7 := Lib.hid (show Later w wc A7' c7' rc.2 from later_of ho7' (by have := HW4.size; have := hbW.size; omega))
      have hz7 := hb7.size
      obtain ⟨hc7, hf7⟩ := bcell hb7
      have t0 := (hc7 _ 0 o0).trans s0
      have t1 := (hc7 _ 1 o0).trans s1
      have t2 := (hc7 _ 0 o2).trans s2
      have t3 := (hc7 _ 1 o2).trans s3
      have p0 : w3.heap.size < wc.heap.size := by omega
      have p1 : w3.heap.size < wc.heap.size + 1 := by omega
      have p2 : w5.heap.size < wc.heap.size := by omega
      have p3 : w5.heap.size < wc.heap.size + 1 := by omega
      have p4 : B7 < wc.heap.size + 1 := by omega
      have p5 : w3.heap.size < wc.heap.size + 1 + 1 := by omega
      have p6 : w5.heap.size < wc.heap.size + 1 + 1 := by omega
      have HN2 := Lib.hid (show W6.heap.size ≤ B7 from hB7)
      clear s0 s1 s2 s3 o0 o1 o2 o3 o4 hc7 hf7 ho7 ho7' hB7 e0 e1 hB6'
      generalize wc = W7 at *
      have hmk := make_none
      have HSE := Lib.hid (show (W7.alloc (.cells #[] 34)).heap.size = W7.heap.size + 1 by simp)
      go_wp2_with fail
      go_cut [15, 16] from 58 to 63 (fun s t wx => RunCut W7 p (xs, []) s t wx)
      case first =>
        go_region_law (first | (go_simp; go_at_call 20; (with_reducible refine (run_any p A1 xs.length cp xs _ 0 0 [] _ (HX.out.rd (by repeat (first | exact Below.refl _ _ | with_reducible apply bel_drew | with_reducible apply bel_drewN | with_reducible apply bel_alloc | (with_reducible refine bel_set ?_ (by first | omega | (simp <;> omega)) _) | (with_reducible refine bel_step ?_ (by assumption)) | (with_reducible refine bel_step ?_ (grown_none (by assumption)))))) (rd_zero (by first | omega | (simp <;> omega))) (by simp; omega) HSH.out).mono ?_); rintro e w6 ⟨A8, c8, A8', c8', rfl, ho8, ho8', hb8⟩; have hz8 := hb8.size; (try simp at hz8); obtain ⟨hc8, hf8⟩ := bcell hb8))
        all_goals
          go_wp2_with fail
          go_meet
          case rel => first | exact (runcut_new (w := W7.alloc (.cells #[] 34)) (by repeat (first | exact Below.refl _ _ | with_reducible apply bel_drew | with_reducible apply bel_drewN | with_reducible apply bel_alloc | (with_reducible refine bel_set ?_ (by first | omega | (simp <;> omega)) _) | (with_reducible refine bel_step ?_ (by assumption)) | (with_reducible refine bel_step ?_ (grown_none (by assumption))))) ho8 ho8').back (bel_alloc (Below.refl _ _) _) | exact runcut_old (w := W7) (by repeat (first | exact Below.refl _ _ | with_reducible apply bel_drew | with_reducible apply bel_drewN | with_reducible apply bel_alloc | (with_reducible refine bel_set ?_ (by first | omega | (simp <;> omega)) _) | (with_reducible refine bel_step ?_ (by assumption)) | (with_reducible refine bel_step ?_ (grown_none (by assumption))))) (ho8.lower (le_al _ _)) (ho8'.lower (le_al _ _)) | (rw [← HSE.out]; exact (runcut_old (w := W7.alloc (.cells #[] 34)) (by repeat (first | exact Below.refl _ _ | with_reducible apply bel_drew | with_reducible apply bel_drewN | with_reducible apply bel_alloc | (with_reducible refine bel_set ?_ (by first | omega | (simp <;> omega)) _) | (with_reducible refine bel_step ?_ (by assumption)) | (with_reducible refine bel_step ?_ (grown_none (by assumption))))) ho8 ho8').back (bel_alloc (Below.refl _ _) _))
      case rest =>
        obtain ⟨B8, A8, c8, A8', c8', rfl, rfl, hb8, hB8, hB8', e4, e5, ho8, ho8', f4, f5, g4, g5⟩ := hcut
        dsimp only at e5 ho8 ho8' g4 g5 ⊢
        have start : DelI W7 B8 p (xs.drop 0) (xs.take 0) (.slice A8' 0 c8') wc := ⟨A8, c8, A8', c8', rfl, hb8, hB8, hB8', e4, e5, f4, f5, ho8, fun k hk => ⟨g4 k hk, (ho8.block k hk).2, (ho8.block k hk).1⟩, ho8', fun k hk => ⟨g5 k hk, (ho8'.block k hk).2, (ho8'.block k hk).1⟩⟩
        have cz := hb8.size
        obtain ⟨hc8, hf8⟩ := bcell hb8
        have c1 := (hc8 _ 1 p0).trans t1
        clear hc8 hf8 ho8 ho8' g4 g5 f4 f5 e4 e5 hb8
        go_wp2_with fail
        clear c1
        go_loopw [16, 67] (fun v i wr => ∃ n : Nat, n ≤ xs.length ∧ i = .int .i64 n ∧ DelI W7 B8 p (xs.drop n) (xs.take n) v wr) (fun _ i _ => xs.length - (intOf i).toNat)
        case atStart => exact ⟨0, by omega, rfl, start⟩
        case round =>
          obtain ⟨n, hn, rfl, hI⟩ := hrel
          clear start
          by_cases hlt : n < xs.length
          · obtain ⟨x, hx⟩ : ∃ x, xs[n]? = some x := ⟨_, List.getElem?_eq_getElem hlt⟩
            have e1 := doR_first hx
            have e2 := take_next hx
            have lx : (xs.drop n).length ≤ 5 := by rw [List.length_drop]; omega
            have ly : (xs.take n).length ≤ 5 := by rw [List.length_take]; omega
            have sx : Short (xs.drop n) := fun z hz => HSH.out z (List.mem_of_mem_drop hz)
            have DO : ∀ (W : World) (A : Option Addr) (c : Nat), Rd dk W (.slice A (xs.drop n).length c) (xs.drop n) → Calls Try.prog 12 #[.agg #[.int .i64 p, .slice A (xs.drop n).length c], .agg #[.int .i64 1, .int .i64 0, .int .i64 0, .int .i64 0]] W fun e w' => DoIs W e w' p (xs.drop (n + 1), [x], 0) := fun W A c hr => by
              have h := do_any p A _ c (xs.drop n) first1 W hr (by omega) sx
              rw [e1] at h
              exact h
            have lys : [x].length ≤ 1 := Nat.le_refl _
            have HNX : Hid (xs.take (n + 1) = xs.take n ++ [x]) := Lib.hid e2.symm
            have HD := Lib.hid DO
            clear DO e1 e2 sx hx
            generalize [x] = ys at lys HNX HD
            generalize hyk : xs.drop (n + 1) = yk at HD
            have HYK := Lib.hid hyk
            clear hyk
            generalize xs.drop n = xk at hI lx HD
            generalize xs.take n = acc at hI ly HNX
            obtain ⟨Ak, ck, Aa, ca, rfl, hbw, hB0, hB1, r0, r1, rf0, rf1, hoN, hobN, hoA, hobA⟩ := hI
            have HON := Lib.hid hoN
            have HBN := Lib.hid hobN
            have HOA := Lib.hid hoA
            have HBA := Lib.hid hobA
            clear hoN hobN hoA hobA
            go_wp2_with fail
            refine (HD.out _ _ _ (rd_step HON.out.rd (by repeat (first | exact Below.refl _ _ | with_reducible apply bel_drew | with_reducible apply bel_drewN | with_reducible apply bel_alloc | (with_reducible refine bel_set ?_ (by first | omega | (simp <;> omega)) _) | (with_reducible refine bel_step ?_ (by assumption)) | (with_reducible refine bel_step ?_ (grown_none (by assumption))))))).mono ?_
            rintro e w2 ⟨Ad, cd, Ap, cpp, rfl, hod, hrp, hbp, hb2⟩
            dsimp only at hod hrp hbp ⊢
            have hzc := hb2.size
            try simp at hzc
            obtain ⟨hc2, hf2⟩ := bcell hb2
            have m0 : w2.cell? ⟨B8, 0, none⟩ = some (.int .i64 p) := (hc2 _ _ (by first | omega | (simp <;> omega))).trans (by go_simp)
            have mf0 : w2.frozen? ⟨B8, 0, none⟩ = false := (hf2 _ _ (by first | omega | (simp <;> omega))).trans (by go_simp)
            have m1 : w2.cell? ⟨B8, 1, none⟩ = some (.slice Ak xk.length ck) := (hc2 _ _ (by first | omega | (simp <;> omega))).trans (by go_simp)
            have mf1 : w2.frozen? ⟨B8, 1, none⟩ = false := (hf2 _ _ (by first | omega | (simp <;> omega))).trans (by go_simp)
            have mt0 : B8 < w2.heap.size := (by omega)
            have mt1 : B8 < w2.heap.size + 1 := (by omega)
            clear hc2 hf2
            have HBD := Lib.hid (fun k' (hk' : (Value.slice Ad yk.length cd).ownBlock = some k') => (show wr.heap.size ≤ k' ∧ k' < w2.heap.size by have := hod.block k' hk'; (try simp at this); omega))
            have HOD := Lib.hid (hod.lower (B' := W7.heap.size) (by have := hbw.size; simp <;> omega))
            have HRP := Lib.hid hrp
            have hz7w := hbw.size
            clear hod hrp hbp
            go_wp2_with fail
            go_region_law (refine step_append_rd (d := dk) (v := .slice Aa acc.length ca) (y := .slice Ap ys.length cpp) (xs := acc) (ys := ys) rfl (.tmp 79) (.tmp 80) 27 rfl 39 i0 _ 32 W7.heap.size Try.underlying27 hi hz0 hs0 hz2 rfl rfl (own_still HOA.out (by repeat (first | exact Below.refl _ _ | with_reducible apply bel_drew | with_reducible apply bel_drewN | with_reducible apply bel_alloc | (with_reducible refine bel_set ?_ (by first | omega | (simp <;> omega)) _) | (with_reducible refine bel_step ?_ (by assumption)) | (with_reducible refine bel_step ?_ (grown_none (by assumption)))))) rfl (rd_step HRP.out (by repeat (first | exact Below.refl _ _ | with_reducible apply bel_drew | with_reducible apply bel_drewN | with_reducible apply bel_alloc | (with_reducible refine bel_set ?_ (by first | omega | (simp <;> omega)) _) | (with_reducible refine bel_step ?_ (by assumption)) | (with_reducible refine bel_step ?_ (grown_none (by assumption)))))) (by omega) (by unfold maxLen; omega) (by first | omega | (simp <;> omega)) (acc.length + ys.length) (by simp) ?_; intro A3 c3 w3 ho3 hg3 hat3; have hzz := hg3.size; (try simp at hzz); have q0 : w3.cell? ⟨B8, 0, none⟩ = some (.int .i64 p) := ((grown_cell hg3 (by first | omega | (simp <;> omega)) (fun e => by have := HBA.out _ e; first | omega | (simp at this <;> omega))).1 _).trans (by go_simp); have qf0 : w3.frozen? ⟨B8, 0, none⟩ = false := ((grown_cell hg3 (by first | omega | (simp <;> omega)) (fun e => by have := HBA.out _ e; first | omega | (simp at this <;> omega))).2 _).trans (by go_simp); have q1 : w3.cell? ⟨B8, 1, none⟩ = some (.slice Ak xk.length ck) := ((grown_cell hg3 (by first | omega | (simp <;> omega)) (fun e => by have := HBA.out _ e; first | omega | (simp at this <;> omega))).1 _).trans (by go_simp); have qf1 : w3.frozen? ⟨B8, 1, none⟩ = false := ((grown_cell hg3 (by first | omega | (simp <;> omega)) (fun e => by have := HBA.out _ e; first | omega | (simp at this <;> omega))).2 _).trans (by go_simp); have q2 : w3.cell? ⟨w2.heap.size, 0, none⟩ = some (.int .i64 p) := ((grown_cell hg3 (by first | omega | (simp <;> omega)) (fun e => by have := HBA.out _ e; first | omega | (simp at this <;> omega))).1 _).trans (by go_simp); have qf2 : w3.frozen? ⟨w2.heap.size, 0, none⟩ = false := ((grown_cell hg3 (by first | omega | (simp <;> omega)) (fun e => by have := HBA.out _ e; first | omega | (simp at this <;> omega))).2 _).trans (by go_simp); have q3 : w3.cell? ⟨w2.heap.size, 1, none⟩ = some (.slice Ad yk.length cd) := ((grown_cell hg3 (by first | omega | (simp <;> omega)) (fun e => by have := HBA.out _ e; first | omega | (simp at this <;> omega))).1 _).trans (by go_simp); have qf3 : w3.frozen? ⟨w2.heap.size, 1, none⟩ = false := ((grown_cell hg3 (by first | omega | (simp <;> omega)) (fun e => by have := HBA.out _ e; first | omega | (simp at this <;> omega))).2 _).trans (by go_simp); have qt0 : B8 < w3.heap.size := (by omega); have qt1 : B8 < w3.heap.size + 1 := (by omega); have qt2 : w2.heap.size < w3.heap.size := (by omega); have qt3 : w2.heap.size < w3.heap.size + 1 := (by omega); have HB3 := Lib.hid (show ∀ k', (Value.slice A3 (acc.length + ys.length) c3).ownBlock = some k' → (k' ≠ B8 ∧ W7.heap.size ≤ k' ∧ k' < w3.heap.size) from fun k' hk' => ⟨(block_at hat3 (fun k' => k' ≠ B8 ∧ W7.heap.size ≤ k') (fun k' hk' => by have := HBA.out k' hk'; omega) (by first | omega | (simp <;> omega)) k' hk').1, (block_at hat3 (fun k' => k' ≠ B8 ∧ W7.heap.size ≤ k') (fun k' hk' => by have := HBA.out k' hk'; omega) (by first | omega | (simp <;> omega)) k' hk').2, (ho3.block k' hk').2⟩); have HO3 := Lib.hid ho3; have HOD3 := Lib.hid (show Own dk 39 w3 W7.heap.size (.slice Ad yk.length cd) yk from own_past (own_still HOD.out (by repeat (first | exact Below.refl _ _ | with_reducible apply bel_drew | with_reducible apply bel_drewN | with_reducible apply bel_alloc | (with_reducible refine bel_set ?_ (by first | omega | (simp <;> omega)) _) | (with_reducible refine bel_step ?_ (by assumption)) | (with_reducible refine bel_step ?_ (grown_none (by assumption)))))) hg3 (fun k' hk' e => by have := HBA.out k' e; have := HBD.out k' hk'; omega)); have hb3 := bel_grown (W := W7) (bel_step hbw (by repeat (first | exact Below.refl _ _ | with_reducible apply bel_drew | with_reducible apply bel_drewN | with_reducible apply bel_alloc | (with_reducible refine bel_set ?_ (by first | omega | (simp <;> omega)) _) | (with_reducible refine bel_step ?_ (by assumption)) | (with_reducible refine bel_step ?_ (grown_none (by assumption)))))) hg3 (fun k' hk' => by have := HBA.out k' hk'; omega); clear hat3 ho3 hg3)
            all_goals
              go_wp2
              go_roundw
              case rel =>
                refine ⟨n + 1, by omega, by go_num, ?_⟩
                rw [HNX.out, HYK.out]
                refine ⟨Ad, cd, A3, c3, by rw [List.length_append], (by repeat (first | exact Below.refl _ _ | with_reducible apply bel_drew | with_reducible apply bel_drewN | with_reducible apply bel_alloc | (with_reducible refine bel_set ?_ (by first | omega | (simp <;> omega)) _) | (with_reducible refine bel_step ?_ (by assumption)) | (with_reducible refine bel_step ?_ (grown_none (by assumption))))), hB0, (by first | omega | (simp <;> omega)), by go_simp, by go_simp, by go_simp, by go_simp, (by (repeat (first | (with_reducible refine Own.setCell ?_ (fun k hk => by have := HBD.out k hk; simp <;> omega) _) | (with_reducible refine own_alloc ?_ _) | (with_reducible refine own_drew ?_) | (with_reducible refine own_drewN ?_ _))); exact HOD3.out), fun k' hk' => ?_, ?_, fun k' hk' => ?_⟩
                · have := HBD.out k' hk'; first | omega | (simp <;> omega)
                · rw [List.length_append]; exact (by (repeat (first | (with_reducible refine Own.setCell ?_ (fun k hk => by have := HB3.out k hk; simp <;> omega) _) | (with_reducible refine own_alloc ?_ _) | (with_reducible refine own_drew ?_) | (with_reducible refine own_drewN ?_ _))); exact HO3.out)
                · rw [List.length_append] at hk'; have := HB3.out k' hk'; first | omega | (simp <;> omega)
              case measure => simp [intOf]; omega
          · obtain rfl : n = xs.length := by omega
            rw [List.drop_length, List.take_length] at hI
            obtain ⟨Ak, ck, Aa, ca, rfl, hbw, hB0, hB1, r0, r1, rf0, rf1, hoN, hobN, hoA, hobA⟩ := hI
            obtain ⟨hcr, hfr⟩ := bcell hbw
            have v1 := (hcr _ 1 p0).trans t1
            have v2 := (hcr _ 0 p2).trans t2
            have v3 := (hcr _ 1 p2).trans t3
            have v4 := (hcr _ 0 hB7').trans e2
            have v5 := (hcr _ 1 hB7').trans e3
            have hzw := hbw.size
            have i0' : w3.heap.size < wr.heap.size := by omega
            have i2 : w5.heap.size < wr.heap.size := by omega
            have i3 : B7 < wr.heap.size := by omega
            have HOA := Lib.hid hoA
            have HSS := Lib.hid (show sameN p ra.1 p rc.1 = true by rw [HCUT.out]; exact sameN_self p rc.1 (by omega))
            have HS2 := Lib.hid (show sameP ra.2 (rb.2 ++ rc.2) = true by rw [HCUT.out]; exact sameP_self _ (by rw [List.length_append]; omega))
            have HS3 := Lib.hid (show sameP xs xs = true from sameP_self _ (by omega))
            have la3 : ra.2.length ≤ 1000000 := by omega
            clear hcr hfr t0 t1 t2 t3 e2 e3 hoN hobN hoA hobA p0 p1 p2 p3 p4 p5 p6 rf0 rf1 r0
            go_wp2_with (first | (go_at_call 17; (with_reducible refine (same_any p p A5 A7 _ c5 _ c7 ra.1 rc.1 _ (HX5.out.rd (by repeat (first | exact Below.refl _ _ | with_reducible apply bel_drew | with_reducible apply bel_drewN | with_reducible apply bel_alloc | (with_reducible refine bel_set ?_ (by first | omega | (simp <;> omega)) _) | (with_reducible refine bel_step ?_ (by assumption)) | (with_reducible refine bel_step ?_ (grown_none (by assumption)))))) (HX7.out.rd (by repeat (first | exact Below.refl _ _ | with_reducible apply bel_drew | with_reducible apply bel_drewN | with_reducible apply bel_alloc | (with_reducible refine bel_set ?_ (by first | omega | (simp <;> omega)) _) | (with_reducible refine bel_step ?_ (by assumption)) | (with_reducible refine bel_step ?_ (grown_none (by assumption)))))) (by omega)).mono ?_); rintro e w9 ⟨rfl, hb9⟩; rw [HSS.out]; have hzw9 := hb9.size; (try simp at hzw9); obtain ⟨hcc, hff⟩ := bcell hb9; have nw9 : w9.cell? ⟨w3.heap.size, 1, none⟩ = some (.slice A1 xs.length cp) := (hcc _ 1 i0').trans v1; have mw9 : w9.cell? ⟨B8, 1, none⟩ = some (.slice Ak ([] : List S39).length ck) := (hcc _ 1 hB1).trans r1; have iw9 : w3.heap.size < w9.heap.size := (by omega); have jw9 : B8 < w9.heap.size := (by omega); clear hcc hff) | (at_builtin; refine wpList_append_rd_g (by go_simp) (.const (.slice none 0 0)) (.tmp 88) 27 rfl 39 i0 _ 32 wr.heap.size Try.underlying27 hi hz0 hs0 hz2 rfl (v := .slice none 0 0) (y := .slice A6' rb.2.length c6') (xs := []) (ys := rb.2) rfl (Own.nil dk 39 _ _) rfl (HP6.out.rd (by repeat (first | exact Below.refl _ _ | with_reducible apply bel_drew | with_reducible apply bel_drewN | with_reducible apply bel_alloc | (with_reducible refine bel_set ?_ (by first | omega | (simp <;> omega)) _) | (with_reducible refine bel_step ?_ (by assumption)) | (with_reducible refine bel_step ?_ (grown_none (by assumption)))))) (by simp <;> omega) (by unfold maxLen; simp <;> omega) (by first | omega | (simp <;> omega)) rb.2.length (by simp) ?_; intro A9 c9 w10 ho9 hg9 hat9; have hb10 := grown_none hg9; clear hat9 hg9; rw [List.nil_append] at ho9; have HO9 := Lib.hid ho9; clear ho9; have hzw10 := hb10.size; (try simp at hzw10); obtain ⟨hcc, hff⟩ := bcell hb10; have nw10 : w10.cell? ⟨w3.heap.size, 1, none⟩ = some (.slice A1 xs.length cp) := (hcc _ 1 (by first | omega | (simp <;> omega))).trans (by go_simp); have mw10 : w10.cell? ⟨B8, 1, none⟩ = some (.slice Ak ([] : List S39).length ck) := (hcc _ 1 (by first | omega | (simp <;> omega))).trans (by go_simp); have iw10 : w3.heap.size < w10.heap.size := (by omega); have jw10 : B8 < w10.heap.size := (by omega); clear hcc hff) | (at_builtin; refine wpList_append_rd_g (by go_simp) (.tmp 89) (.tmp 90) 27 rfl 39 i0 _ 32 wr.heap.size Try.underlying27 hi hz0 hs0 hz2 rfl (v := .slice A9 rb.2.length c9) (y := .slice A7' rc.2.length c7') (xs := rb.2) (ys := rc.2) rfl (own_still HO9.out (by repeat (first | exact Below.refl _ _ | with_reducible apply bel_drew | with_reducible apply bel_drewN | with_reducible apply bel_alloc | (with_reducible refine bel_set ?_ (by first | omega | (simp <;> omega)) _) | (with_reducible refine bel_step ?_ (by assumption)) | (with_reducible refine bel_step ?_ (grown_none (by assumption)))))) rfl (HP7.out.rd (by repeat (first | exact Below.refl _ _ | with_reducible apply bel_drew | with_reducible apply bel_drewN | with_reducible apply bel_alloc | (with_reducible refine bel_set ?_ (by first | omega | (simp <;> omega)) _) | (with_reducible refine bel_step ?_ (by assumption)) | (with_reducible refine bel_step ?_ (grown_none (by assumption)))))) (by omega) (by unfold maxLen; omega) (by first | omega | (simp <;> omega)) (rb.2.length + rc.2.length) (by simp) ?_; intro A10 c10 w11 ho10 hg10 hat10; have hb11 := bel_grown (W := wr) (by repeat (first | exact Below.refl _ _ | with_reducible apply bel_drew | with_reducible apply bel_drewN | with_reducible apply bel_alloc | (with_reducible refine bel_set ?_ (by first | omega | (simp <;> omega)) _) | (with_reducible refine bel_step ?_ (by assumption)) | (with_reducible refine bel_step ?_ (grown_none (by assumption))))) hg10 (fun k hk => (HO9.out.block k hk).1); clear hat10 hg10; have HO10 := Lib.hid ho10; clear ho10; have hzw11 := hb11.size; (try simp at hzw11); obtain ⟨hcc, hff⟩ := bcell hb11; have nw11 : w11.cell? ⟨w3.heap.size, 1, none⟩ = some (.slice A1 xs.length cp) := (hcc _ 1 (by first | omega | (simp <;> omega))).trans (by go_simp); have mw11 : w11.cell? ⟨B8, 1, none⟩ = some (.slice Ak ([] : List S39).length ck) := (hcc _ 1 (by first | omega | (simp <;> omega))).trans (by go_simp); have iw11 : w3.heap.size < w11.heap.size := (by omega); have jw11 : B8 < w11.heap.size := (by omega); clear hcc hff) | (go_at_call 19; (with_reducible refine (samep_ref A5' A10 _ c5' _ c10 ra.2 (rb.2 ++ rc.2) _ (HP5.out.rd (by repeat (first | exact Below.refl _ _ | with_reducible apply bel_drew | with_reducible apply bel_drewN | with_reducible apply bel_alloc | (with_reducible refine bel_set ?_ (by first | omega | (simp <;> omega)) _) | (with_reducible refine bel_step ?_ (by assumption)) | (with_reducible refine bel_step ?_ (grown_none (by assumption)))))) (own_still HO10.out (by repeat (first | exact Below.refl _ _ | with_reducible apply bel_drew | with_reducible apply bel_drewN | with_reducible apply bel_alloc | (with_reducible refine bel_set ?_ (by first | omega | (simp <;> omega)) _) | (with_reducible refine bel_step ?_ (by assumption)) | (with_reducible refine bel_step ?_ (grown_none (by assumption)))))).rd (by omega)).mono ?_); rintro e w12 ⟨rfl, hb12⟩; rw [HS2.out]; have hzw12 := hb12.size; (try simp at hzw12); obtain ⟨hcc, hff⟩ := bcell hb12; have nw12 : w12.cell? ⟨w3.heap.size, 1, none⟩ = some (.slice A1 xs.length cp) := (hcc _ 1 (by first | omega | (simp <;> omega))).trans (by go_simp); have mw12 : w12.cell? ⟨B8, 1, none⟩ = some (.slice Ak ([] : List S39).length ck) := (hcc _ 1 (by first | omega | (simp <;> omega))).trans (by go_simp); have iw12 : w3.heap.size < w12.heap.size := (by omega); have jw12 : B8 < w12.heap.size := (by omega); clear hcc hff) | (go_at_call 19; (with_reducible refine (samep_ref Aa A1 _ ca _ cp xs xs _ (own_still HOA.out (by repeat (first | exact Below.refl _ _ | with_reducible apply bel_drew | with_reducible apply bel_drewN | with_reducible apply bel_alloc | (with_reducible refine bel_set ?_ (by first | omega | (simp <;> omega)) _) | (with_reducible refine bel_step ?_ (by assumption)) | (with_reducible refine bel_step ?_ (grown_none (by assumption)))))).rd (HX.out.rd (by repeat (first | exact Below.refl _ _ | with_reducible apply bel_drew | with_reducible apply bel_drewN | with_reducible apply bel_alloc | (with_reducible refine bel_set ?_ (by first | omega | (simp <;> omega)) _) | (with_reducible refine bel_step ?_ (by assumption)) | (with_reducible refine bel_step ?_ (grown_none (by assumption)))))) (by omega)).mono ?_); rintro e w13 ⟨rfl, hb13⟩; rw [HS3.out]; have hzw13 := hb13.size; (try simp at hzw13); obtain ⟨hcc, hff⟩ := bcell hb13; have nw13 : w13.cell? ⟨w3.heap.size, 1, none⟩ = some (.slice A1 xs.length cp) := (hcc _ 1 (by first | omega | (simp <;> omega))).trans (by go_simp); have mw13 : w13.cell? ⟨B8, 1, none⟩ = some (.slice Ak ([] : List S39).length ck) := (hcc _ 1 (by first | omega | (simp <;> omega))).trans (by go_simp); have iw13 : w3.heap.size < w13.heap.size := (by omega); have jw13 : B8 < w13.heap.size := (by omega); clear hcc hff) | (go_at_call 8; refine (awake_any _).mono ?_; rintro e w14 ⟨rfl, hb14⟩))
            go_ret
            exact ⟨rfl, (by repeat (first | exact HW4 | exact Below.refl _ _ | with_reducible apply bel_drew | with_reducible apply bel_drewN | with_reducible apply bel_alloc | (with_reducible refine bel_set ?_ (by first | omega | (simp <;> omega)) _) | (with_reducible refine bel_step ?_ (by assumption)) | (with_reducible refine bel_step ?_ (grown_none (by assumption)))))⟩

end Go.Proofs.Ytkcijghflaoccaa.Nw
