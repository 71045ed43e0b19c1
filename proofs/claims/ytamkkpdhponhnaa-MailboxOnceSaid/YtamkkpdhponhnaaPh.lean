/- Contract: slices.IndexFunc and slices.DeleteFunc of letters. -/
import Derived.Test.YtamkkpdhponhnaaPg
import Derived.LoopTactic
import Derived.Outline
import Derived.Deep.RegionLaw
namespace Go.Proofs.Ytamkkpdhponhnaa.Nw
open Go.RowKit Go.Proofs.Ytamkkpdhponhnaa.Ow Go.Proofs.Ytamkkpdhponhnaa.PMailboxAll Go.Proofs.YtamkkpdhponhnaaW.PrintWords
set_option linter.unusedVariables false
set_option linter.unusedSimpArgs false

/-- The first letter that is wanted away, -1 if there is none. -/
def idxFrom (f : S41 → Bool) : List S41 → Nat → Int
  | [], _ => -1
  | l :: ls, n => if f l = true then (n : Int) else idxFrom f ls (n + 1)
theorem idxFrom_bd (f : S41 → Bool) : ∀ (ls : List S41) (n : Nat), (idxFrom f ls n = -1 ∧ ls.filter (fun l => !f l) = ls) ∨ ∃ k, idxFrom f ls n = ((n + k : Nat) : Int) ∧ k < ls.length ∧ (∀ l, ls[k]? = some l → f l = true) ∧ (ls.take k).filter (fun l => !f l) = ls.take k
  | [], _ => Or.inl ⟨rfl, rfl⟩
  | l :: ls, n => by
    unfold idxFrom
    by_cases h : f l = true
    · rw [if_pos h]
      exact Or.inr ⟨0, rfl, by simp, fun x hx => by simp at hx; rw [← hx]; exact h, rfl⟩
    · rw [if_neg h]
      have h' : f l = false := by simpa using h
      rcases idxFrom_bd f ls (n + 1) with ⟨h1, h2⟩ | ⟨k, h1, h2, h3, h4⟩
      · exact Or.inl ⟨h1, by rw [List.filter_cons, h', h2]; rfl⟩
      · exact Or.inr ⟨k + 1, by rw [h1]; omega, by simp; omega, fun x hx => h3 x (by simpa using hx), by rw [List.take_succ_cons, List.filter_cons, h', h4]; rfl⟩
/-- Where the predicate's variables lie. -/
def Boxes (p : ByteArray) (fr bl : Int) (b0 b1 b2 b3 : Nat) (w : World) : Prop :=
  b0 < w.heap.size ∧ b1 < w.heap.size ∧ b2 < w.heap.size ∧ b3 < w.heap.size ∧ w.cell? ⟨b0, 0, none⟩ = some (.string p) ∧ w.cell? ⟨b1, 0, none⟩ = some (.int .i64 fr) ∧ w.cell? ⟨b2, 0, none⟩ = some (.func (.func 33) #[] #[.pointer (some ⟨b3, 0, none⟩)]) ∧ w.cell? ⟨b3, 0, none⟩ = some (.int .i64 bl)
theorem Boxes.below {p : ByteArray} {fr bl : Int} {b0 b1 b2 b3 : Nat} {w w' : World} (h : Boxes p fr bl b0 b1 b2 b3 w) (hb : Below w.heap.size w w') : Boxes p fr bl b0 b1 b2 b3 w' := by
  obtain ⟨h0, h1, h2, h3, c0, c1, c2, c3⟩ := h
  have hc := (bcell hb).1
  have := hb.size
  exact ⟨by omega, by omega, by omega, by omega, (hc _ _ h0).trans c0, (hc _ _ h1).trans c1, (hc _ _ h2).trans c2, (hc _ _ h3).trans c3⟩
theorem del1_any (l : S41) {b0 b1 b2 b3 : Nat} {p : ByteArray} {fr bl : Int} {w : World} (h : Boxes p fr bl b0 b1 b2 b3 w) :
    Calls Try.prog 43 #[.agg #[.string l.f0, .int .i64 l.f1, .string l.f2], .pointer (some ⟨b0, 0, none⟩), .pointer (some ⟨b1, 0, none⟩), .pointer (some ⟨b2, 0, none⟩)] w fun e w' => e = .returned (.bool (wantD p fr bl l)) ∧ Below w.heap.size w w' := by
  obtain ⟨h0, h1, h2, h3, c0, c1, c2, c3⟩ := h
  exact of1_drop l b0 b1 b2 b3 p fr bl w h0 h1 h2 h3 c0 c1 c2 c3

set_option maxHeartbeats 1000000 in
theorem indexL_any (A : Option Addr) (n c : Nat) (ls : List S41) (b0 b1 b2 b3 : Nat) (p : ByteArray) (fr bl : Int) (w : World) (hr : Rd dl w (.slice A n c) ls) (hl : ls.length ≤ 1000000) (hx : Boxes p fr bl b0 b1 b2 b3 w) :
    Calls Try.prog 44 #[.slice A n c, .func (.func 43) #[] #[.pointer (some ⟨b0, 0, none⟩), .pointer (some ⟨b1, 0, none⟩), .pointer (some ⟨b2, 0, none⟩)]] w fun e w' => e = .returned (.int .i64 (idxFrom (wantD p fr bl) ls 0)) ∧ Below w.heap.size w w' := by
  have hn := hr.len
  subst hn
  have H := Lib.hid (fun (W : World) (h : Below w.heap.size w W) => rd_step hr h)
  have HX := Lib.hid (fun (W : World) (h : Below w.heap.size w W) => hx.below h)
  clear hr hx
  obtain ⟨f, hf⟩ : ∃ f, f = wantD p fr bl := ⟨_, rfl⟩
  have HD := Lib.hid (fun (W : World) (l : S41) (h : Below w.heap.size w W) => del1_any l (HX.out W h))
  rw [← hf] at HD ⊢
  clear HX hf
  obtain ⟨I, hI⟩ : ∃ I, I = idxFrom f ls 0 := ⟨_, rfl⟩
  rw [← hI]
  have HI := Lib.hid hI
  clear hI
  go_enter Try.func44, Try.ntmps44
  go_wp2_with fail
  go_loopw [8] (fun i wr => ∃ j : Nat, j ≤ ls.length ∧ i = .int .i64 j ∧ Below w.heap.size w wr ∧ I = idxFrom f (ls.drop j) j) (fun i _ => ls.length - (intOf i).toNat)
  case atStart => exact ⟨0, by omega, rfl, Below.refl _ _, HI.out⟩
  case round =>
    obtain ⟨j, hj, rfl, hbw, hp⟩ := hrel
    have hzw := hbw.size
    by_cases hlt : j < ls.length
    · obtain ⟨l, ht⟩ : ∃ l, ls[j]? = some l := ⟨_, List.getElem?_eq_getElem hlt⟩
      obtain ⟨g, o, he, gl, c0, c1, c2⟩ : ∃ g o, A = some ⟨g, o, none⟩ ∧ g < wr.heap.size ∧ wr.cell? ⟨g, o + j * 3, none⟩ = some (.string l.f0) ∧ wr.cell? ⟨g, o + j * 3 + 1, none⟩ = some (.int .i64 l.f1) ∧ wr.cell? ⟨g, o + j * 3 + 2, none⟩ = some (.string l.f2) := by
        obtain ⟨gh, oh, he, hlt', hcx⟩ := (H.out wr hbw).at_ ht
        exact ⟨gh, oh, he, hlt', hcx 0 _ rfl, hcx 1 _ rfl, hcx 2 _ rfl⟩
      subst he
      rw [drop_at ht] at hp
      unfold idxFrom at hp
      by_cases hq : f l = true
      · have hp2 : I = (j : Int) := by
          rw [if_pos hq] at hp
          exact hp
        clear hp
        go_wp2_with (go_at_call 43; refine (HD.out _ l (bel_step hbw (by repeat (first | exact Below.refl _ _ | with_reducible apply bel_drew | with_reducible apply bel_drewN | with_reducible apply bel_alloc | (with_reducible refine bel_set ?_ (by first | omega | (simp <;> omega)) _) | (with_reducible refine bel_step ?_ (by assumption)) | (with_reducible refine bel_step ?_ (grown_none (by assumption))))))).mono ?_; rintro e w1 ⟨rfl, hb1⟩; rw [hq])
        go_ret
        exact ⟨by rw [hp2]; rfl, bel_step hbw (by repeat (first | exact Below.refl _ _ | with_reducible apply bel_drew | with_reducible apply bel_drewN | with_reducible apply bel_alloc | (with_reducible refine bel_set ?_ (by first | omega | (simp <;> omega)) _) | (with_reducible refine bel_step ?_ (by assumption)) | (with_reducible refine bel_step ?_ (grown_none (by assumption)))))⟩
      · rw [if_neg hq] at hp
        have hqb : f l = false := by simpa using hq
        have HP := Lib.hid hp
        clear hp
        go_wp2_with (go_at_call 43; refine (HD.out _ l (bel_step hbw (by repeat (first | exact Below.refl _ _ | with_reducible apply bel_drew | with_reducible apply bel_drewN | with_reducible apply bel_alloc | (with_reducible refine bel_set ?_ (by first | omega | (simp <;> omega)) _) | (with_reducible refine bel_step ?_ (by assumption)) | (with_reducible refine bel_step ?_ (grown_none (by assumption))))))).mono ?_; rintro e w1 ⟨rfl, hb1⟩; rw [hqb])
        go_roundw
        case rel => exact ⟨j + 1, by omega, by go_num, bel_step hbw (by repeat (first | exact Below.refl _ _ | with_reducible apply bel_drew | with_reducible apply bel_drewN | with_reducible apply bel_alloc | (with_reducible refine bel_set ?_ (by first | omega | (simp <;> omega)) _) | (with_reducible refine bel_step ?_ (by assumption)) | (with_reducible refine bel_step ?_ (grown_none (by assumption))))), HP.out⟩
        case measure => simp [intOf]; omega
    · obtain rfl : j = ls.length := by omega
      rw [List.drop_length] at hp
      have hp' : I = -1 := hp
      clear hp
      go_wp2
      go_ret
      exact ⟨by rw [hp']; rfl, hbw⟩
end Go.Proofs.Ytamkkpdhponhnaa.Nw
