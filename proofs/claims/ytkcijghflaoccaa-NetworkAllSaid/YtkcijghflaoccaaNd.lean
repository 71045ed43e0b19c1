/- Contracts: a packet is sent. -/
import Derived.Test.YtkcijghflaoccaaNb
import Derived.Test.YtkcijghflaoccaaNc
namespace Go.Proofs.Ytkcijghflaoccaa.Nw
open Go.RowKit Go.Proofs.Ytkcijghflaoccaa.Ow Go.Proofs.Ytkcijghflaoccaa.PNetworkAll
set_option linter.unusedVariables false
set_option linter.unusedSimpArgs false

def inB (i p : Int) : Bool := decide (0 ≤ i) && decide (i < p)
theorem ret_bool {a b : Bool} (h : a = b) : Ending.returned (.bool a) = .returned (.bool b) := by rw [h]
set_option maxHeartbeats 400000 in
theorem party_any (i p : Int) (b : Nat) (w : World) (hc : w.cell? ⟨b, 0, none⟩ = some (.int .i64 p)) :
    Calls Try.prog 32 #[.int .i64 i, .pointer (some ⟨b, 0, none⟩)] w fun e w' => e = .returned (.bool (inB i p)) ∧ w = w' := by
  by_cases h : 0 ≤ i
  · go_enter Try.func32, Try.ntmps32
    go_wp2
    go_ret
    exact ⟨ret_bool (by unfold inB; simp [h]), rfl⟩
  · have hd : decide (0 ≤ i) = false := by simp; omega
    go_enter Try.func32, Try.ntmps32
    go_wp2
    go_ret
    exact ⟨ret_bool (by unfold inB; simp [hd]), rfl⟩

/-- What Send answers. -/
def sendE (p : Int) (x : S39) : Int := if inB x.f0 p && inB x.f1 p then 0 else 2
def sendN (p : Int) (xs : List S39) (x : S39) : List S39 := if inB x.f0 p && inB x.f1 p then xs ++ [x] else xs
theorem send_no {p : Int} {x : S39} (h : (inB x.f0 p && inB x.f1 p) = false) (xs : List S39) : sendE p x = 2 ∧ sendN p xs x = xs := by unfold sendE sendN; simp only [h, if_false, Bool.false_eq_true, and_self]
theorem send_yes {p : Int} {x : S39} (h : (inB x.f0 p && inB x.f1 p) = true) (xs : List S39) : sendE p x = 0 ∧ sendN p xs x = xs ++ [x] := by unfold sendE sendN; simp only [h, if_true, and_self]

/-- A network and an error code. -/
def NetE (w : World) (e : Ending) (w' : World) (p : Int) (ys : List S39) (code : Int) : Prop :=
  ∃ A c, e = .returned (.tuple #[.agg #[.int .i64 p, .slice A ys.length c], .int .i64 code]) ∧ Own dk 39 w' w.heap.size (.slice A ys.length c) ys ∧ Below w.heap.size w w'

theorem own_still {e : TypeId} {w w' : World} {B : Nat} {v : Value} {xs : List S39} (h : Own dk e w B v xs) (hb : Below w.heap.size w w') : Own dk e w' B v xs := h.below hb
/-- One packet in cells of its own. -/
theorem rd_lit {w : World} {g : Nat} (x : S39) (hg : g < w.heap.size) (h0 : w.cell? ⟨g, 0, none⟩ = some (.int .i64 x.f0)) (h1 : w.cell? ⟨g, 1, none⟩ = some (.int .i64 x.f1)) (h2 : w.cell? ⟨g, 2, none⟩ = some (.string x.f2)) : Rd dk w (.slice (some ⟨g, 0, none⟩) 1 1) [x] := by
  refine .inr ⟨g, 0, 1, rfl, Nat.le_refl _, by unfold maxLen; omega, hg, fun j u hu => ?_⟩
  rw [Nat.zero_add]
  match j, hu with
  | 0, hu => simp [flat, dk] at hu; rw [h0, hu]
  | 1, hu => simp [flat, dk] at hu; rw [h1, hu]
  | 2, hu => simp [flat, dk] at hu; rw [h2, hu]
  | j + 3, hu => simp [flat, dk] at hu

set_option maxHeartbeats 800000 in
theorem send_a (p : Int) (A : Option Addr) (n c : Nat) (xs : List S39) (x : S39) (w : World) (hr : Rd dk w (.slice A n c) xs) (hl : xs.length < 64) (hx : x.f2.size ≤ 100000)
    (a0 : inB x.f0 p = false) (a1 : inB x.f1 p = inB x.f1 p) :
    Calls Try.prog 14 #[.agg #[.int .i64 p, .slice A n c], .agg #[.int .i64 x.f0, .int .i64 x.f1, .string x.f2]] w fun e w' => NetE w e w' p (sendN p xs x) (sendE p x) := by
  have hno : (inB x.f0 p && inB x.f1 p) = false := by simp only [a0, a1, Bool.and_false, Bool.false_and, Bool.and_true]
  rw [(send_no hno xs).1, (send_no hno xs).2]
  clear hno
  have hn := hr.len
  have hcap := hr.cap
  have H := Lib.hid hr
  clear hr
  subst hn
  have P0 := Lib.hid (fun W h => party_any x.f0 p w.heap.size W h)
  have P1 := Lib.hid (fun W h => party_any x.f1 p w.heap.size W h)
  obtain ⟨i0, hi, hz0, hs0, hz2⟩ := info_parts info39
  go_enter Try.func14, Try.ntmps14
  go_wp2_with fail
  refine (copied_any p A xs.length c xs _ (rd_step H.out (by repeat (first | exact Below.refl _ _ | with_reducible apply bel_drew | with_reducible apply bel_drewN | with_reducible apply bel_alloc | (with_reducible refine bel_set ?_ (by first | omega | (simp <;> omega)) _) | (with_reducible refine bel_step ?_ (by assumption)) | (with_reducible refine bel_step ?_ (grown_none (by assumption)))))) (by omega)).mono ?_
  rintro e w1 ⟨A1, c1, rfl, ho, hb⟩
  have hz := hb.size
  simp at hz
  obtain ⟨hc, hf⟩ := bcell hb
  have k0 : w1.cell? ⟨w.heap.size, 0, none⟩ = some (.int .i64 p) := (hc _ _ (by first | omega | (simp <;> omega))).trans (by go_simp)
  have kf0 : w1.frozen? ⟨w.heap.size, 0, none⟩ = false := (hf _ _ (by first | omega | (simp <;> omega))).trans (by go_simp)
  have k1 : w1.cell? ⟨w.heap.size, 1, none⟩ = some (.slice A xs.length c) := (hc _ _ (by first | omega | (simp <;> omega))).trans (by go_simp)
  have kf1 : w1.frozen? ⟨w.heap.size, 1, none⟩ = false := (hf _ _ (by first | omega | (simp <;> omega))).trans (by go_simp)
  have k2 : w1.cell? ⟨w.heap.size + 1, 0, none⟩ = some (.int .i64 x.f0) := (hc _ _ (by first | omega | (simp <;> omega))).trans (by go_simp)
  have kf2 : w1.frozen? ⟨w.heap.size + 1, 0, none⟩ = false := (hf _ _ (by first | omega | (simp <;> omega))).trans (by go_simp)
  have k3 : w1.cell? ⟨w.heap.size + 1, 1, none⟩ = some (.int .i64 x.f1) := (hc _ _ (by first | omega | (simp <;> omega))).trans (by go_simp)
  have kf3 : w1.frozen? ⟨w.heap.size + 1, 1, none⟩ = false := (hf _ _ (by first | omega | (simp <;> omega))).trans (by go_simp)
  have k4 : w1.cell? ⟨w.heap.size + 1, 2, none⟩ = some (.string x.f2) := (hc _ _ (by first | omega | (simp <;> omega))).trans (by go_simp)
  have kf4 : w1.frozen? ⟨w.heap.size + 1, 2, none⟩ = false := (hf _ _ (by first | omega | (simp <;> omega))).trans (by go_simp)
  have k5 : w1.cell? ⟨w.heap.size + 1 + 1, 0, none⟩ = some (.int .i64 0) := (hc _ _ (by first | omega | (simp <;> omega))).trans (by go_simp)
  have kf5 : w1.frozen? ⟨w.heap.size + 1 + 1, 0, none⟩ = false := (hf _ _ (by first | omega | (simp <;> omega))).trans (by go_simp)
  have k6 : w1.cell? ⟨w.heap.size + 1 + 1, 1, none⟩ = some (.slice none 0 0) := (hc _ _ (by first | omega | (simp <;> omega))).trans (by go_simp)
  have kf6 : w1.frozen? ⟨w.heap.size + 1 + 1, 1, none⟩ = false := (hf _ _ (by first | omega | (simp <;> omega))).trans (by go_simp)
  clear hc hf
  have lt0 : w.heap.size < w1.heap.size := (by omega)
  have lt1 : w.heap.size < w1.heap.size + 1 := (by omega)
  have lt2 : w.heap.size < w1.heap.size + 1 + 1 := (by omega)
  have lt3 : w.heap.size + 1 < w1.heap.size := (by omega)
  have lt4 : w.heap.size + 1 < w1.heap.size + 1 := (by omega)
  have lt5 : w.heap.size + 1 < w1.heap.size + 1 + 1 := (by omega)
  have lt6 : w.heap.size + 1 + 1 < w1.heap.size := (by omega)
  have lt7 : w.heap.size + 1 + 1 < w1.heap.size + 1 := (by omega)
  have lt8 : w.heap.size + 1 + 1 < w1.heap.size + 1 + 1 := (by omega)
  have HB := Lib.hid (fun k (hk : (Value.slice A1 xs.length c1).ownBlock = some k) => (show w.heap.size + 3 ≤ k ∧ k < w1.heap.size by have := ho.block k hk; simp at this; omega))
  have HO := Lib.hid (ho.lower (B' := w.heap.size) (by first | omega | (simp <;> omega)))
  clear ho
  go_wp2_with (first | (go_at_call 32; (with_reducible refine (P0.out _ (by go_simp)).mono ?_); rintro e w' ⟨rfl, rfl⟩) | (go_at_call 32; (with_reducible refine (P1.out _ (by go_simp)).mono ?_); rintro e w' ⟨rfl, rfl⟩))
  refine bodyPost_ret (v := .tuple #[.agg #[.int .i64 p, .slice A1 xs.length c1], .int .i64 2]) (by simp [results, Try.results14, go_sem, *]) rfl ⟨A1, c1, rfl, (by (repeat (first | (with_reducible refine Own.setCell ?_ (fun k hk => by have := HB.out k hk; simp <;> omega) _) | (with_reducible refine own_alloc ?_ _) | (with_reducible refine own_drew ?_) | (with_reducible refine own_drewN ?_ _))); exact HO.out), (by repeat (first | exact Below.refl _ _ | with_reducible apply bel_drew | with_reducible apply bel_drewN | with_reducible apply bel_alloc | (with_reducible refine bel_set ?_ (by first | omega | (simp <;> omega)) _) | (with_reducible refine bel_step ?_ (by assumption)) | (with_reducible refine bel_step ?_ (grown_none (by assumption)))))⟩

set_option maxHeartbeats 800000 in
theorem send_b (p : Int) (A : Option Addr) (n c : Nat) (xs : List S39) (x : S39) (w : World) (hr : Rd dk w (.slice A n c) xs) (hl : xs.length < 64) (hx : x.f2.size ≤ 100000)
    (a0 : inB x.f0 p = true) (a1 : inB x.f1 p = false) :
    Calls Try.prog 14 #[.agg #[.int .i64 p, .slice A n c], .agg #[.int .i64 x.f0, .int .i64 x.f1, .string x.f2]] w fun e w' => NetE w e w' p (sendN p xs x) (sendE p x) := by
  have hno : (inB x.f0 p && inB x.f1 p) = false := by simp only [a0, a1, Bool.and_false, Bool.false_and, Bool.and_true]
  rw [(send_no hno xs).1, (send_no hno xs).2]
  clear hno
  have hn := hr.len
  have hcap := hr.cap
  have H := Lib.hid hr
  clear hr
  subst hn
  have P0 := Lib.hid (fun W h => party_any x.f0 p w.heap.size W h)
  have P1 := Lib.hid (fun W h => party_any x.f1 p w.heap.size W h)
  obtain ⟨i0, hi, hz0, hs0, hz2⟩ := info_parts info39
  go_enter Try.func14, Try.ntmps14
  go_wp2_with fail
  refine (copied_any p A xs.length c xs _ (rd_step H.out (by repeat (first | exact Below.refl _ _ | with_reducible apply bel_drew | with_reducible apply bel_drewN | with_reducible apply bel_alloc | (with_reducible refine bel_set ?_ (by first | omega | (simp <;> omega)) _) | (with_reducible refine bel_step ?_ (by assumption)) | (with_reducible refine bel_step ?_ (grown_none (by assumption)))))) (by omega)).mono ?_
  rintro e w1 ⟨A1, c1, rfl, ho, hb⟩
  have hz := hb.size
  simp at hz
  obtain ⟨hc, hf⟩ := bcell hb
  have k0 : w1.cell? ⟨w.heap.size, 0, none⟩ = some (.int .i64 p) := (hc _ _ (by first | omega | (simp <;> omega))).trans (by go_simp)
  have kf0 : w1.frozen? ⟨w.heap.size, 0, none⟩ = false := (hf _ _ (by first | omega | (simp <;> omega))).trans (by go_simp)
  have k1 : w1.cell? ⟨w.heap.size, 1, none⟩ = some (.slice A xs.length c) := (hc _ _ (by first | omega | (simp <;> omega))).trans (by go_simp)
  have kf1 : w1.frozen? ⟨w.heap.size, 1, none⟩ = false := (hf _ _ (by first | omega | (simp <;> omega))).trans (by go_simp)
  have k2 : w1.cell? ⟨w.heap.size + 1, 0, none⟩ = some (.int .i64 x.f0) := (hc _ _ (by first | omega | (simp <;> omega))).trans (by go_simp)
  have kf2 : w1.frozen? ⟨w.heap.size + 1, 0, none⟩ = false := (hf _ _ (by first | omega | (simp <;> omega))).trans (by go_simp)
  have k3 : w1.cell? ⟨w.heap.size + 1, 1, none⟩ = some (.int .i64 x.f1) := (hc _ _ (by first | omega | (simp <;> omega))).trans (by go_simp)
  have kf3 : w1.frozen? ⟨w.heap.size + 1, 1, none⟩ = false := (hf _ _ (by first | omega | (simp <;> omega))).trans (by go_simp)
  have k4 : w1.cell? ⟨w.heap.size + 1, 2, none⟩ = some (.string x.f2) := (hc _ _ (by first | omega | (simp <;> omega))).trans (by go_simp)
  have kf4 : w1.frozen? ⟨w.heap.size + 1, 2, none⟩ = false := (hf _ _ (by first | omega | (simp <;> omega))).trans (by go_simp)
  have k5 : w1.cell? ⟨w.heap.size + 1 + 1, 0, none⟩ = some (.int .i64 0) := (hc _ _ (by first | omega | (simp <;> omega))).trans (by go_simp)
  have kf5 : w1.frozen? ⟨w.heap.size + 1 + 1, 0, none⟩ = false := (hf _ _ (by first | omega | (simp <;> omega))).trans (by go_simp)
  have k6 : w1.cell? ⟨w.heap.size + 1 + 1, 1, none⟩ = some (.slice none 0 0) := (hc _ _ (by first | omega | (simp <;> omega))).trans (by go_simp)
  have kf6 : w1.frozen? ⟨w.heap.size + 1 + 1, 1, none⟩ = false := (hf _ _ (by first | omega | (simp <;> omega))).trans (by go_simp)
  clear hc hf
  have lt0 : w.heap.size < w1.heap.size := (by omega)
  have lt1 : w.heap.size < w1.heap.size + 1 := (by omega)
  have lt2 : w.heap.size < w1.heap.size + 1 + 1 := (by omega)
  have lt3 : w.heap.size + 1 < w1.heap.size := (by omega)
  have lt4 : w.heap.size + 1 < w1.heap.size + 1 := (by omega)
  have lt5 : w.heap.size + 1 < w1.heap.size + 1 + 1 := (by omega)
  have lt6 : w.heap.size + 1 + 1 < w1.heap.size := (by omega)
  have lt7 : w.heap.size + 1 + 1 < w1.heap.size + 1 := (by omega)
  have lt8 : w.heap.size + 1 + 1 < w1.heap.size + 1 + 1 := (by omega)
  have HB := Lib.hid (fun k (hk : (Value.slice A1 xs.length c1).ownBlock = some k) => (show w.heap.size + 3 ≤ k ∧ k < w1.heap.size by have := ho.block k hk; simp at this; omega))
  have HO := Lib.hid (ho.lower (B' := w.heap.size) (by first | omega | (simp <;> omega)))
  clear ho
  go_wp2_with (first | (go_at_call 32; (with_reducible refine (P0.out _ (by go_simp)).mono ?_); rintro e w' ⟨rfl, rfl⟩) | (go_at_call 32; (with_reducible refine (P1.out _ (by go_simp)).mono ?_); rintro e w' ⟨rfl, rfl⟩))
  refine bodyPost_ret (v := .tuple #[.agg #[.int .i64 p, .slice A1 xs.length c1], .int .i64 2]) (by simp [results, Try.results14, go_sem, *]) rfl ⟨A1, c1, rfl, (by (repeat (first | (with_reducible refine Own.setCell ?_ (fun k hk => by have := HB.out k hk; simp <;> omega) _) | (with_reducible refine own_alloc ?_ _) | (with_reducible refine own_drew ?_) | (with_reducible refine own_drewN ?_ _))); exact HO.out), (by repeat (first | exact Below.refl _ _ | with_reducible apply bel_drew | with_reducible apply bel_drewN | with_reducible apply bel_alloc | (with_reducible refine bel_set ?_ (by first | omega | (simp <;> omega)) _) | (with_reducible refine bel_step ?_ (by assumption)) | (with_reducible refine bel_step ?_ (grown_none (by assumption)))))⟩

set_option maxHeartbeats 800000 in
theorem send_c (p : Int) (A : Option Addr) (n c : Nat) (xs : List S39) (x : S39) (w : World) (hr : Rd dk w (.slice A n c) xs) (hl : xs.length < 64) (hx : x.f2.size ≤ 100000)
    (a0 : inB x.f0 p = true) (a1 : inB x.f1 p = true) :
    Calls Try.prog 14 #[.agg #[.int .i64 p, .slice A n c], .agg #[.int .i64 x.f0, .int .i64 x.f1, .string x.f2]] w fun e w' => NetE w e w' p (sendN p xs x) (sendE p x) := by
  have hyes : (inB x.f0 p && inB x.f1 p) = true := by simp only [a0, a1, Bool.and_self]
  rw [(send_yes hyes xs).1, (send_yes hyes xs).2]
  clear hyes
  have hn := hr.len
  have hcap := hr.cap
  have H := Lib.hid hr
  clear hr
  subst hn
  have P0 := Lib.hid (fun W h => party_any x.f0 p w.heap.size W h)
  have P1 := Lib.hid (fun W h => party_any x.f1 p w.heap.size W h)
  obtain ⟨i0, hi, hz0, hs0, hz2⟩ := info_parts info39
  go_enter Try.func14, Try.ntmps14
  go_wp2_with fail
  refine (copied_any p A xs.length c xs _ (rd_step H.out (by repeat (first | exact Below.refl _ _ | with_reducible apply bel_drew | with_reducible apply bel_drewN | with_reducible apply bel_alloc | (with_reducible refine bel_set ?_ (by first | omega | (simp <;> omega)) _) | (with_reducible refine bel_step ?_ (by assumption)) | (with_reducible refine bel_step ?_ (grown_none (by assumption)))))) (by omega)).mono ?_
  rintro e w1 ⟨A1, c1, rfl, ho, hb⟩
  have hz := hb.size
  simp at hz
  obtain ⟨hc, hf⟩ := bcell hb
  have k0 : w1.cell? ⟨w.heap.size, 0, none⟩ = some (.int .i64 p) := (hc _ _ (by first | omega | (simp <;> omega))).trans (by go_simp)
  have kf0 : w1.frozen? ⟨w.heap.size, 0, none⟩ = false := (hf _ _ (by first | omega | (simp <;> omega))).trans (by go_simp)
  have k1 : w1.cell? ⟨w.heap.size, 1, none⟩ = some (.slice A xs.length c) := (hc _ _ (by first | omega | (simp <;> omega))).trans (by go_simp)
  have kf1 : w1.frozen? ⟨w.heap.size, 1, none⟩ = false := (hf _ _ (by first | omega | (simp <;> omega))).trans (by go_simp)
  have k2 : w1.cell? ⟨w.heap.size + 1, 0, none⟩ = some (.int .i64 x.f0) := (hc _ _ (by first | omega | (simp <;> omega))).trans (by go_simp)
  have kf2 : w1.frozen? ⟨w.heap.size + 1, 0, none⟩ = false := (hf _ _ (by first | omega | (simp <;> omega))).trans (by go_simp)
  have k3 : w1.cell? ⟨w.heap.size + 1, 1, none⟩ = some (.int .i64 x.f1) := (hc _ _ (by first | omega | (simp <;> omega))).trans (by go_simp)
  have kf3 : w1.frozen? ⟨w.heap.size + 1, 1, none⟩ = false := (hf _ _ (by first | omega | (simp <;> omega))).trans (by go_simp)
  have k4 : w1.cell? ⟨w.heap.size + 1, 2, none⟩ = some (.string x.f2) := (hc _ _ (by first | omega | (simp <;> omega))).trans (by go_simp)
  have kf4 : w1.frozen? ⟨w.heap.size + 1, 2, none⟩ = false := (hf _ _ (by first | omega | (simp <;> omega))).trans (by go_simp)
  have k5 : w1.cell? ⟨w.heap.size + 1 + 1, 0, none⟩ = some (.int .i64 0) := (hc _ _ (by first | omega | (simp <;> omega))).trans (by go_simp)
  have kf5 : w1.frozen? ⟨w.heap.size + 1 + 1, 0, none⟩ = false := (hf _ _ (by first | omega | (simp <;> omega))).trans (by go_simp)
  have k6 : w1.cell? ⟨w.heap.size + 1 + 1, 1, none⟩ = some (.slice none 0 0) := (hc _ _ (by first | omega | (simp <;> omega))).trans (by go_simp)
  have kf6 : w1.frozen? ⟨w.heap.size + 1 + 1, 1, none⟩ = false := (hf _ _ (by first | omega | (simp <;> omega))).trans (by go_simp)
  clear hc hf
  have lt0 : w.heap.size < w1.heap.size := (by omega)
  have lt1 : w.heap.size < w1.heap.size + 1 := (by omega)
  have lt2 : w.heap.size < w1.heap.size + 1 + 1 := (by omega)
  have lt3 : w.heap.size + 1 < w1.heap.size := (by omega)
  have lt4 : w.heap.size + 1 < w1.heap.size + 1 := (by omega)
  have lt5 : w.heap.size + 1 < w1.heap.size + 1 + 1 := (by omega)
  have lt6 : w.heap.size + 1 + 1 < w1.heap.size := (by omega)
  have lt7 : w.heap.size + 1 + 1 < w1.heap.size + 1 := (by omega)
  have lt8 : w.heap.size + 1 + 1 < w1.heap.size + 1 + 1 := (by omega)
  have HB := Lib.hid (fun k (hk : (Value.slice A1 xs.length c1).ownBlock = some k) => (show w.heap.size + 3 ≤ k ∧ k < w1.heap.size by have := ho.block k hk; simp at this; omega))
  have HO := Lib.hid (ho.lower (B' := w.heap.size) (by first | omega | (simp <;> omega)))
  clear ho
  go_wp2_with (first | (go_at_call 32; (with_reducible refine (P0.out _ (by go_simp)).mono ?_); rintro e w' ⟨rfl, rfl⟩) | (go_at_call 32; (with_reducible refine (P1.out _ (by go_simp)).mono ?_); rintro e w' ⟨rfl, rfl⟩) | (at_builtin; refine wpList_append_rd (d := dk) (v := .slice A1 xs.length c1) (y := .slice (some ⟨w1.heap.size + 1, 0, none⟩) 1 1) (xs := xs) (ys := [x]) rfl _ _ 27 rfl 39 i0 _ 32 w.heap.size Try.underlying27 hi hz0 hs0 hz2 rfl rfl (own_still HO.out (by repeat (first | exact Below.refl _ _ | with_reducible apply bel_drew | with_reducible apply bel_drewN | with_reducible apply bel_alloc | (with_reducible refine bel_set ?_ (by first | omega | (simp <;> omega)) _) | (with_reducible refine bel_step ?_ (by assumption)) | (with_reducible refine bel_step ?_ (grown_none (by assumption)))))) rfl (rd_lit _ (by first | omega | (simp <;> omega)) (by go_simp) (by go_simp) (by go_simp)) (by first | omega | (simp <;> omega)) (by unfold maxLen; simp <;> omega) (by first | omega | (simp <;> omega)) (xs.length + 1) (by simp) ?_; intro A2 c2 w2 ho2 hg2 hat2; have hz2' := hg2.size; simp at hz2'; have m0 : w2.cell? ⟨w.heap.size, 0, none⟩ = some (.int .i64 p) := ((grown_cell hg2 (by first | omega | (simp <;> omega)) (fun e => by have := HB.out _ e; first | omega | (simp at this <;> omega))).1 _).trans (by go_simp); have mf0 : w2.frozen? ⟨w.heap.size, 0, none⟩ = false := ((grown_cell hg2 (by first | omega | (simp <;> omega)) (fun e => by have := HB.out _ e; first | omega | (simp at this <;> omega))).2 _).trans (by go_simp); have m1 : w2.cell? ⟨w.heap.size, 1, none⟩ = some (.slice A xs.length c) := ((grown_cell hg2 (by first | omega | (simp <;> omega)) (fun e => by have := HB.out _ e; first | omega | (simp at this <;> omega))).1 _).trans (by go_simp); have mf1 : w2.frozen? ⟨w.heap.size, 1, none⟩ = false := ((grown_cell hg2 (by first | omega | (simp <;> omega)) (fun e => by have := HB.out _ e; first | omega | (simp at this <;> omega))).2 _).trans (by go_simp); have m2 : w2.cell? ⟨w.heap.size + 1, 0, none⟩ = some (.int .i64 x.f0) := ((grown_cell hg2 (by first | omega | (simp <;> omega)) (fun e => by have := HB.out _ e; first | omega | (simp at this <;> omega))).1 _).trans (by go_simp); have mf2 : w2.frozen? ⟨w.heap.size + 1, 0, none⟩ = false := ((grown_cell hg2 (by first | omega | (simp <;> omega)) (fun e => by have := HB.out _ e; first | omega | (simp at this <;> omega))).2 _).trans (by go_simp); have m3 : w2.cell? ⟨w.heap.size + 1, 1, none⟩ = some (.int .i64 x.f1) := ((grown_cell hg2 (by first | omega | (simp <;> omega)) (fun e => by have := HB.out _ e; first | omega | (simp at this <;> omega))).1 _).trans (by go_simp); have mf3 : w2.frozen? ⟨w.heap.size + 1, 1, none⟩ = false := ((grown_cell hg2 (by first | omega | (simp <;> omega)) (fun e => by have := HB.out _ e; first | omega | (simp at this <;> omega))).2 _).trans (by go_simp); have m4 : w2.cell? ⟨w.heap.size + 1, 2, none⟩ = some (.string x.f2) := ((grown_cell hg2 (by first | omega | (simp <;> omega)) (fun e => by have := HB.out _ e; first | omega | (simp at this <;> omega))).1 _).trans (by go_simp); have mf4 : w2.frozen? ⟨w.heap.size + 1, 2, none⟩ = false := ((grown_cell hg2 (by first | omega | (simp <;> omega)) (fun e => by have := HB.out _ e; first | omega | (simp at this <;> omega))).2 _).trans (by go_simp); have m5 : w2.cell? ⟨w.heap.size + 1 + 1, 0, none⟩ = some (.int .i64 0) := ((grown_cell hg2 (by first | omega | (simp <;> omega)) (fun e => by have := HB.out _ e; first | omega | (simp at this <;> omega))).1 _).trans (by go_simp); have mf5 : w2.frozen? ⟨w.heap.size + 1 + 1, 0, none⟩ = false := ((grown_cell hg2 (by first | omega | (simp <;> omega)) (fun e => by have := HB.out _ e; first | omega | (simp at this <;> omega))).2 _).trans (by go_simp); have m6 : w2.cell? ⟨w.heap.size + 1 + 1, 1, none⟩ = some (.slice none 0 0) := ((grown_cell hg2 (by first | omega | (simp <;> omega)) (fun e => by have := HB.out _ e; first | omega | (simp at this <;> omega))).1 _).trans (by go_simp); have mf6 : w2.frozen? ⟨w.heap.size + 1 + 1, 1, none⟩ = false := ((grown_cell hg2 (by first | omega | (simp <;> omega)) (fun e => by have := HB.out _ e; first | omega | (simp at this <;> omega))).2 _).trans (by go_simp); have m7 : w2.cell? ⟨w1.heap.size, 0, none⟩ = some (.int .i64 p) := ((grown_cell hg2 (by first | omega | (simp <;> omega)) (fun e => by have := HB.out _ e; first | omega | (simp at this <;> omega))).1 _).trans (by go_simp); have mf7 : w2.frozen? ⟨w1.heap.size, 0, none⟩ = false := ((grown_cell hg2 (by first | omega | (simp <;> omega)) (fun e => by have := HB.out _ e; first | omega | (simp at this <;> omega))).2 _).trans (by go_simp); have m8 : w2.cell? ⟨w1.heap.size, 1, none⟩ = some (.slice A1 xs.length c1) := ((grown_cell hg2 (by first | omega | (simp <;> omega)) (fun e => by have := HB.out _ e; first | omega | (simp at this <;> omega))).1 _).trans (by go_simp); have mf8 : w2.frozen? ⟨w1.heap.size, 1, none⟩ = false := ((grown_cell hg2 (by first | omega | (simp <;> omega)) (fun e => by have := HB.out _ e; first | omega | (simp at this <;> omega))).2 _).trans (by go_simp); have mt0 : w.heap.size < w2.heap.size := (by omega); have mt1 : w.heap.size < w2.heap.size + 1 := (by omega); have mt2 : w.heap.size + 1 < w2.heap.size := (by omega); have mt3 : w.heap.size + 1 < w2.heap.size + 1 := (by omega); have mt4 : w.heap.size + 1 + 1 < w2.heap.size := (by omega); have mt5 : w.heap.size + 1 + 1 < w2.heap.size + 1 := (by omega); have mt6 : w1.heap.size < w2.heap.size := (by omega); have mt7 : w1.heap.size < w2.heap.size + 1 := (by omega); have HB2 := Lib.hid (show ∀ k, (Value.slice A2 (xs.length + 1) c2).ownBlock = some k → (w.heap.size + 3 ≤ k ∧ k ≠ w1.heap.size) from block_at hat2 (fun k => w.heap.size + 3 ≤ k ∧ k ≠ w1.heap.size) (fun k hk => by have := HB.out k hk; omega) (by first | omega | (simp <;> omega))); have HO2 := Lib.hid ho2; have hb2 := bel_grown (W := w) (by repeat (first | exact Below.refl _ _ | with_reducible apply bel_drew | with_reducible apply bel_drewN | with_reducible apply bel_alloc | (with_reducible refine bel_set ?_ (by first | omega | (simp <;> omega)) _) | (with_reducible refine bel_step ?_ (by assumption)) | (with_reducible refine bel_step ?_ (grown_none (by assumption))))) hg2 (fun k hk => by have := HB.out k hk; omega); clear hat2 ho2 hg2))
  refine bodyPost_ret (v := .tuple #[.agg #[.int .i64 p, .slice A2 (xs.length + 1) c2], .int .i64 0]) (by simp [results, Try.results14, go_sem, *]) rfl ⟨A2, c2, by simp, ?_, (by repeat (first | exact Below.refl _ _ | with_reducible apply bel_drew | with_reducible apply bel_drewN | with_reducible apply bel_alloc | (with_reducible refine bel_set ?_ (by first | omega | (simp <;> omega)) _) | (with_reducible refine bel_step ?_ (by assumption)) | (with_reducible refine bel_step ?_ (grown_none (by assumption)))))⟩
  rw [show (xs ++ [x]).length = xs.length + 1 by simp]
  exact (by (repeat (first | (with_reducible refine Own.setCell ?_ (fun k hk => by have := HB2.out k hk; simp <;> omega) _) | (with_reducible refine own_alloc ?_ _) | (with_reducible refine own_drew ?_) | (with_reducible refine own_drewN ?_ _))); exact HO2.out)

theorem send_any (p : Int) (A : Option Addr) (n c : Nat) (xs : List S39) (x : S39) (w : World) (hr : Rd dk w (.slice A n c) xs) (hl : xs.length < 64) (hx : x.f2.size ≤ 100000) :
    Calls Try.prog 14 #[.agg #[.int .i64 p, .slice A n c], .agg #[.int .i64 x.f0, .int .i64 x.f1, .string x.f2]] w fun e w' => NetE w e w' p (sendN p xs x) (sendE p x) := by
  cases h0 : inB x.f0 p with
  | false => exact send_a p A n c xs x w hr hl hx h0 rfl
  | true =>
    cases h1 : inB x.f1 p with
    | false => exact send_b p A n c xs x w hr hl hx h0 h1
    | true => exact send_c p A n c xs x w hr hl hx h0 h1
end Go.Proofs.Ytkcijghflaoccaa.Nw
