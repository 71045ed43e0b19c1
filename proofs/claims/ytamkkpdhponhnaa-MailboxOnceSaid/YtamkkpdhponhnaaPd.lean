/- The predicates of letters: of$1, Drop$1, anyNumber; counting. -/
import Derived.Test.YtamkkpdhponhnaaPc
import Derived.LoopTactic
import Derived.Outline
namespace Go.Proofs.Ytamkkpdhponhnaa.Nw
open Go.RowKit Go.Proofs.Ytamkkpdhponhnaa.Ow Go.Proofs.Ytamkkpdhponhnaa.PMailboxAll Go.Proofs.YtamkkpdhponhnaaW.PrintWords
set_option linter.unusedVariables false
set_option linter.unusedSimpArgs false

/-- A letter of a topic, from a number on; up to below another one. -/
def wantA (p : ByteArray) (fr : Int) (l : S41) : Bool := decide (l.f0.toList = p.toList ∧ fr ≤ l.f1)
def wantD (p : ByteArray) (fr bl : Int) (l : S41) : Bool := decide (l.f0.toList = p.toList ∧ fr ≤ l.f1 ∧ l.f1 < bl)
def fnA : Value := .func (.func 31) #[] #[]
set_option maxHeartbeats 400000 in
theorem anyN_any (n : Int) (w : World) : Calls Try.prog 31 #[.int .i64 n] w fun e w' => e = .returned (.bool true) ∧ Below w.heap.size w w' := by
  go_enter Try.func31, Try.ntmps31
  go_wp2
  go_ret
  exact ⟨rfl, (by repeat (first | exact Below.refl _ _ | with_reducible apply bel_drew | with_reducible apply bel_drewN | with_reducible apply bel_alloc | (with_reducible refine bel_set ?_ (by first | omega | (simp <;> omega)) _) | (with_reducible refine bel_step ?_ (by assumption)) | (with_reducible refine bel_step ?_ (grown_none (by assumption)))))⟩
set_option maxHeartbeats 400000 in
theorem drop1_any (n x : Int) (b : Nat) (w : World) (hb : b < w.heap.size) (hc : w.cell? ⟨b, 0, none⟩ = some (.int .i64 x)) : Calls Try.prog 33 #[.int .i64 n, .pointer (some ⟨b, 0, none⟩)] w fun e w' => e = .returned (.bool (decide (n < x))) ∧ Below w.heap.size w w' := by
  go_enter Try.func33, Try.ntmps33
  go_wp2
  go_ret
  exact ⟨rfl, (by repeat (first | exact Below.refl _ _ | with_reducible apply bel_drew | with_reducible apply bel_drewN | with_reducible apply bel_alloc | (with_reducible refine bel_set ?_ (by first | omega | (simp <;> omega)) _) | (with_reducible refine bel_step ?_ (by assumption)) | (with_reducible refine bel_step ?_ (grown_none (by assumption)))))⟩
set_option maxHeartbeats 1000000 in
theorem of1_any (l : S41) (b0 b1 b2 : Nat) (p : ByteArray) (fr : Int) (w : World) (h0 : b0 < w.heap.size) (h1 : b1 < w.heap.size) (h2 : b2 < w.heap.size) (c0 : w.cell? ⟨b0, 0, none⟩ = some (.string p)) (c1 : w.cell? ⟨b1, 0, none⟩ = some (.int .i64 fr)) (c2 : w.cell? ⟨b2, 0, none⟩ = some (.func (.func 31) #[] #[])) :
    Calls Try.prog 43 #[.agg #[.string l.f0, .int .i64 l.f1, .string l.f2], .pointer (some ⟨b0, 0, none⟩), .pointer (some ⟨b1, 0, none⟩), .pointer (some ⟨b2, 0, none⟩)] w fun e w' => e = .returned (.bool (wantA p fr l)) ∧ Below w.heap.size w w' := by
  have g0 : b0 < w.heap.size + 1 := by omega
  have g1 : b1 < w.heap.size + 1 := by omega
  have g2 : b2 < w.heap.size + 1 := by omega
  have HW : Hid (wantA p fr l = decide (l.f0.toList = p.toList ∧ fr ≤ l.f1)) := Lib.hid rfl
  generalize wantA p fr l = wv at HW
  by_cases q : l.f0.toList = p.toList
  · have qb : (l.f0.toList == p.toList) = true := by rw [beq_iff_eq]; exact q
    by_cases q2 : fr ≤ l.f1
    · have qc : decide (l.f1 ≥ fr) = true := decide_eq_true q2
      have hw : wv = true := by rw [HW.out]; exact decide_eq_true ⟨q, q2⟩
      subst hw
      clear q q2
      go_enter Try.func43, Try.ntmps43
      go_wp2_with (go_at_call 31; refine (anyN_any _ _).mono ?_; rintro e w1 ⟨rfl, hb1⟩)
      go_ret
      exact ⟨rfl, (by repeat (first | exact Below.refl _ _ | with_reducible apply bel_drew | with_reducible apply bel_drewN | with_reducible apply bel_alloc | (with_reducible refine bel_set ?_ (by first | omega | (simp <;> omega)) _) | (with_reducible refine bel_step ?_ (by assumption)) | (with_reducible refine bel_step ?_ (grown_none (by assumption)))))⟩
    · have qc : decide (l.f1 ≥ fr) = false := decide_eq_false q2
      have hw : wv = false := by rw [HW.out]; exact decide_eq_false (fun h => q2 h.2)
      subst hw
      clear q q2
      go_enter Try.func43, Try.ntmps43
      go_wp2
      go_ret
      exact ⟨rfl, (by repeat (first | exact Below.refl _ _ | with_reducible apply bel_drew | with_reducible apply bel_drewN | with_reducible apply bel_alloc | (with_reducible refine bel_set ?_ (by first | omega | (simp <;> omega)) _) | (with_reducible refine bel_step ?_ (by assumption)) | (with_reducible refine bel_step ?_ (grown_none (by assumption)))))⟩
  · have qb : (l.f0.toList == p.toList) = false := beq_eq_false_iff_ne.2 q
    have hw : wv = false := by rw [HW.out]; exact decide_eq_false (fun h => q h.1)
    subst hw
    clear q
    go_enter Try.func43, Try.ntmps43
    go_wp2
    go_ret
    exact ⟨rfl, (by repeat (first | exact Below.refl _ _ | with_reducible apply bel_drew | with_reducible apply bel_drewN | with_reducible apply bel_alloc | (with_reducible refine bel_set ?_ (by first | omega | (simp <;> omega)) _) | (with_reducible refine bel_step ?_ (by assumption)) | (with_reducible refine bel_step ?_ (grown_none (by assumption)))))⟩
set_option maxHeartbeats 1000000 in
theorem of1_drop (l : S41) (b0 b1 b2 b3 : Nat) (p : ByteArray) (fr bl : Int) (w : World) (h0 : b0 < w.heap.size) (h1 : b1 < w.heap.size) (h2 : b2 < w.heap.size) (h3 : b3 < w.heap.size) (c0 : w.cell? ⟨b0, 0, none⟩ = some (.string p)) (c1 : w.cell? ⟨b1, 0, none⟩ = some (.int .i64 fr)) (c2 : w.cell? ⟨b2, 0, none⟩ = some (.func (.func 33) #[] #[.pointer (some ⟨b3, 0, none⟩)])) (c3 : w.cell? ⟨b3, 0, none⟩ = some (.int .i64 bl)) :
    Calls Try.prog 43 #[.agg #[.string l.f0, .int .i64 l.f1, .string l.f2], .pointer (some ⟨b0, 0, none⟩), .pointer (some ⟨b1, 0, none⟩), .pointer (some ⟨b2, 0, none⟩)] w fun e w' => e = .returned (.bool (wantD p fr bl l)) ∧ Below w.heap.size w w' := by
  have g0 : b0 < w.heap.size + 1 := by omega
  have g1 : b1 < w.heap.size + 1 := by omega
  have g2 : b2 < w.heap.size + 1 := by omega
  have g3 : b3 < w.heap.size + 1 := by omega
  have HW : Hid (wantD p fr bl l = decide (l.f0.toList = p.toList ∧ fr ≤ l.f1 ∧ l.f1 < bl)) := Lib.hid rfl
  generalize wantD p fr bl l = wv at HW
  by_cases q : l.f0.toList = p.toList
  · have qb : (l.f0.toList == p.toList) = true := by rw [beq_iff_eq]; exact q
    by_cases q2 : fr ≤ l.f1
    · have qc : decide (l.f1 ≥ fr) = true := decide_eq_true q2
      have hw : wv = decide (l.f1 < bl) := by rw [HW.out]; exact decide_eq_decide.2 ⟨fun h => h.2.2, fun h => ⟨q, q2, h⟩⟩
      subst hw
      clear q q2
      go_enter Try.func43, Try.ntmps43
      go_wp2_with (go_at_call 33; refine (drop1_any _ bl b3 _ (by first | omega | (simp <;> omega)) (by go_simp)).mono ?_; rintro e w1 ⟨rfl, hb1⟩)
      all_goals
        go_ret
        exact ⟨by first | rfl | (simp [*]; done), (by repeat (first | exact Below.refl _ _ | with_reducible apply bel_drew | with_reducible apply bel_drewN | with_reducible apply bel_alloc | (with_reducible refine bel_set ?_ (by first | omega | (simp <;> omega)) _) | (with_reducible refine bel_step ?_ (by assumption)) | (with_reducible refine bel_step ?_ (grown_none (by assumption)))))⟩
    · have qc : decide (l.f1 ≥ fr) = false := decide_eq_false q2
      have hw : wv = false := by rw [HW.out]; exact decide_eq_false (fun h => q2 h.2.1)
      subst hw
      clear q q2
      go_enter Try.func43, Try.ntmps43
      go_wp2
      go_ret
      exact ⟨rfl, (by repeat (first | exact Below.refl _ _ | with_reducible apply bel_drew | with_reducible apply bel_drewN | with_reducible apply bel_alloc | (with_reducible refine bel_set ?_ (by first | omega | (simp <;> omega)) _) | (with_reducible refine bel_step ?_ (by assumption)) | (with_reducible refine bel_step ?_ (grown_none (by assumption)))))⟩
  · have qb : (l.f0.toList == p.toList) = false := beq_eq_false_iff_ne.2 q
    have hw : wv = false := by rw [HW.out]; exact decide_eq_false (fun h => q h.1)
    subst hw
    clear q
    go_enter Try.func43, Try.ntmps43
    go_wp2
    go_ret
    exact ⟨rfl, (by repeat (first | exact Below.refl _ _ | with_reducible apply bel_drew | with_reducible apply bel_drewN | with_reducible apply bel_alloc | (with_reducible refine bel_set ?_ (by first | omega | (simp <;> omega)) _) | (with_reducible refine bel_step ?_ (by assumption)) | (with_reducible refine bel_step ?_ (grown_none (by assumption)))))⟩
set_option maxHeartbeats 400000 in
theorem of_any (p : ByteArray) (fr : Int) (F : Value) (hF : F.oneCell' = true) (w : World) : Calls Try.prog 30 #[.string p, .int .i64 fr, F] w fun e w' =>
    e = .returned (.func (.func 43) #[] #[.pointer (some ⟨w.heap.size, 0, none⟩), .pointer (some ⟨w.heap.size + 1, 0, none⟩), .pointer (some ⟨w.heap.size + 2, 0, none⟩)]) ∧ Below w.heap.size w w' ∧ w'.heap.size = w.heap.size + 3 ∧
      w'.cell? ⟨w.heap.size, 0, none⟩ = some (.string p) ∧ w'.cell? ⟨w.heap.size + 1, 0, none⟩ = some (.int .i64 fr) ∧ w'.cell? ⟨w.heap.size + 2, 0, none⟩ = some F := by
  go_enter Try.func30, Try.ntmps30
  go_wp2
  go_ret
  refine ⟨rfl, (by repeat (first | exact Below.refl _ _ | with_reducible apply bel_drew | with_reducible apply bel_drewN | with_reducible apply bel_alloc | (with_reducible refine bel_set ?_ (by first | omega | (simp <;> omega)) _) | (with_reducible refine bel_step ?_ (by assumption)) | (with_reducible refine bel_step ?_ (grown_none (by assumption))))), ?_, ?_, ?_, ?_⟩ <;> go_simp
end Go.Proofs.Ytamkkpdhponhnaa.Nw
