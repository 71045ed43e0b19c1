/- Contracts: where a topic stands, and what is next in it. -/
import Derived.Test.YtamkkpdhponhnaaPa
import Derived.Test.YtamkkpdhponhnaaPMailboxAllx4
import Derived.LoopTactic
import Derived.Outline
namespace Go.Proofs.Ytamkkpdhponhnaa.Nw
open Go.RowKit Go.Proofs.Ytamkkpdhponhnaa.Ow Go.Proofs.Ytamkkpdhponhnaa.PMailboxAll
set_option linter.unusedVariables false
set_option linter.unusedSimpArgs false

theorem drop_at {α : Type} {qs : List α} {n : Nat} {x : α} (h : qs[n]? = some x) : qs.drop n = x :: qs.drop (n + 1) := by
  obtain ⟨h1, h2⟩ := List.getElem?_eq_some_iff.1 h
  rw [List.drop_eq_getElem_cons h1, h2]
/-- The number of a topic, -1 if there is none. -/
def placeFrom (p : ByteArray) : List S56 → Nat → Int
  | [], _ => -1
  | t :: ts, n => if t.f0.toList = p.toList then (n : Int) else placeFrom p ts (n + 1)
def placeI (ts : List S56) (p : ByteArray) : Int := placeFrom p ts 0
theorem placeFrom_bd (p : ByteArray) : ∀ (ts : List S56) (n : Nat), placeFrom p ts n = -1 ∨ ∃ k, placeFrom p ts n = ((n + k : Nat) : Int) ∧ k < ts.length
  | [], _ => Or.inl rfl
  | t :: ts, n => by
    unfold placeFrom
    split
    · exact Or.inr ⟨0, rfl, by simp⟩
    · rcases placeFrom_bd p ts (n + 1) with h | ⟨k, h, hk⟩
      · exact Or.inl h
      · exact Or.inr ⟨k + 1, by rw [h]; omega, by simp; omega⟩
theorem placeI_bd (ts : List S56) (p : ByteArray) : placeI ts p = -1 ∨ ∃ k, placeI ts p = ((k : Nat) : Int) ∧ k < ts.length := by
  rcases placeFrom_bd p ts 0 with h | ⟨k, h, hk⟩
  · exact Or.inl h
  · exact Or.inr ⟨k, by unfold placeI; rw [h, Nat.zero_add], hk⟩
/-- What is next in a topic. -/
def nextP (ts : List S56) (p : ByteArray) : Int := if placeI ts p < 0 then 0 else (ts.getD (placeI ts p).toNat z56).f1

set_option maxHeartbeats 400000 in
theorem find1_any (t : S56) (b : Nat) (p : ByteArray) (w : World) (hb : b < w.heap.size) (hc : w.cell? ⟨b, 0, none⟩ = some (.string p)) :
    Calls Try.prog 42 #[.agg #[.string t.f0, .int .i64 t.f1], .pointer (some ⟨b, 0, none⟩)] w fun e w' => e = .returned (.bool (t.f0.toList == p.toList)) ∧ Below w.heap.size w w' := by
  have hb1 : b < w.heap.size + 1 := by omega
  go_enter Try.func42, Try.ntmps42
  go_wp2
  go_ret
  exact ⟨rfl, (by repeat (first | exact Below.refl _ _ | with_reducible apply bel_drew | with_reducible apply bel_drewN | with_reducible apply bel_alloc | (with_reducible refine bel_set ?_ (by first | omega | (simp <;> omega)) _) | (with_reducible refine bel_step ?_ (by assumption)) | (with_reducible refine bel_step ?_ (grown_none (by assumption)))))⟩

set_option maxHeartbeats 1000000 in
theorem index_any (A : Option Addr) (n c : Nat) (ts : List S56) (b : Nat) (p : ByteArray) (w : World) (hr : Rd dt w (.slice A n c) ts) (hl : ts.length ≤ 1000000) (hb : b < w.heap.size) (hc : w.cell? ⟨b, 0, none⟩ = some (.string p)) :
    Calls Try.prog 41 #[.slice A n c, .func (.func 42) #[] #[.pointer (some ⟨b, 0, none⟩)]] w fun e w' => e = .returned (.int .i64 (placeI ts p)) ∧ Below w.heap.size w w' := by
  have hn := hr.len
  subst hn
  have H := Lib.hid (fun (W : World) (h : Below w.heap.size w W) => rd_step hr h)
  clear hr
  go_enter Try.func41, Try.ntmps41
  go_wp2_with fail
  go_loopw [8] (fun i wr => ∃ j : Nat, j ≤ ts.length ∧ i = .int .i64 j ∧ Below w.heap.size w wr ∧ placeI ts p = placeFrom p (ts.drop j) j) (fun i _ => ts.length - (intOf i).toNat)
  case atStart => exact ⟨0, by omega, rfl, Below.refl _ _, rfl⟩
  case round =>
    obtain ⟨j, hj, rfl, hbw, hp⟩ := hrel
    have hzw := hbw.size
    by_cases hlt : j < ts.length
    · obtain ⟨t, ht⟩ : ∃ t, ts[j]? = some t := ⟨_, List.getElem?_eq_getElem hlt⟩
      obtain ⟨g, o, he, gl, c0, c1⟩ : ∃ g o, A = some ⟨g, o, none⟩ ∧ g < wr.heap.size ∧ wr.cell? ⟨g, o + j * 2, none⟩ = some (.string t.f0) ∧ wr.cell? ⟨g, o + j * 2 + 1, none⟩ = some (.int .i64 t.f1) := by
        obtain ⟨gh, oh, he, hlt', hcx⟩ := (H.out wr hbw).at_ ht
        exact ⟨gh, oh, he, hlt', hcx 0 _ rfl, hcx 1 _ rfl⟩
      subst he
      have hcw : wr.cell? ⟨b, 0, none⟩ = some (.string p) := ((bcell hbw).1 _ _ hb).trans hc
      rw [drop_at ht] at hp
      unfold placeFrom at hp
      by_cases hq : t.f0.toList = p.toList
      · rw [if_pos hq] at hp
        have hqb : (t.f0.toList == p.toList) = true := by rw [beq_iff_eq]; exact hq
        go_wp2_with (go_at_call 42; refine (find1_any t b p _ (by omega) hcw).mono ?_; rintro e w1 ⟨rfl, hb1⟩; rw [hqb])
        go_ret
        exact ⟨by rw [hp]; rfl, bel_step hbw (by repeat (first | exact Below.refl _ _ | with_reducible apply bel_drew | with_reducible apply bel_drewN | with_reducible apply bel_alloc | (with_reducible refine bel_set ?_ (by first | omega | (simp <;> omega)) _) | (with_reducible refine bel_step ?_ (by assumption)) | (with_reducible refine bel_step ?_ (grown_none (by assumption)))))⟩
      · rw [if_neg hq] at hp
        have hqb : (t.f0.toList == p.toList) = false := beq_eq_false_iff_ne.2 hq
        have HP := Lib.hid hp
        clear hp
        go_wp2_with (go_at_call 42; refine (find1_any t b p _ (by omega) hcw).mono ?_; rintro e w1 ⟨rfl, hb1⟩; rw [hqb])
        go_roundw
        case rel => exact ⟨j + 1, by omega, by go_num, bel_step hbw (by repeat (first | exact Below.refl _ _ | with_reducible apply bel_drew | with_reducible apply bel_drewN | with_reducible apply bel_alloc | (with_reducible refine bel_set ?_ (by first | omega | (simp <;> omega)) _) | (with_reducible refine bel_step ?_ (by assumption)) | (with_reducible refine bel_step ?_ (grown_none (by assumption))))), HP.out⟩
        case measure => simp [intOf]; omega
    · obtain rfl : j = ts.length := by omega
      rw [List.drop_length] at hp
      have hp' : placeI ts p = -1 := hp
      clear hp
      go_wp2
      go_ret
      exact ⟨by rw [hp']; rfl, hbw⟩

set_option maxHeartbeats 1000000 in
theorem find_any (A : Option Addr) (n c : Nat) (ts : List S56) (l : Value) (p : ByteArray) (w : World) (hr : Rd dt w (.slice A n c) ts) (hl : ts.length ≤ 1000000) :
    Calls Try.prog 28 #[.agg #[.slice A n c, l], .string p] w fun e w' => e = .returned (.int .i64 (placeI ts p)) ∧ Below w.heap.size w w' := by
  have H := Lib.hid (fun (W : World) (h : Below w.heap.size w W) => rd_step hr h)
  clear hr
  go_enter Try.func28, Try.ntmps28
  go_wp2_with fail
  refine (index_any A n c ts (w.heap.size + 1) p _ (H.out _ (by repeat (first | exact Below.refl _ _ | with_reducible apply bel_drew | with_reducible apply bel_drewN | with_reducible apply bel_alloc | (with_reducible refine bel_set ?_ (by first | omega | (simp <;> omega)) _) | (with_reducible refine bel_step ?_ (by assumption)) | (with_reducible refine bel_step ?_ (grown_none (by assumption)))))) hl (by first | omega | (simp <;> omega)) (by go_simp)).mono ?_
  rintro e w1 ⟨rfl, hb1⟩
  go_wp2
  go_ret
  exact ⟨rfl, (by repeat (first | exact Below.refl _ _ | with_reducible apply bel_drew | with_reducible apply bel_drewN | with_reducible apply bel_alloc | (with_reducible refine bel_set ?_ (by first | omega | (simp <;> omega)) _) | (with_reducible refine bel_step ?_ (by assumption)) | (with_reducible refine bel_step ?_ (grown_none (by assumption)))))⟩
end Go.Proofs.Ytamkkpdhponhnaa.Nw
