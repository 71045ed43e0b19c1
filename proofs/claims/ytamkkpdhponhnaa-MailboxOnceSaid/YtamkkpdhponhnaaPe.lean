/- Contracts: counting and fetching letters. -/
import Derived.Test.YtamkkpdhponhnaaPd
import Derived.LoopTactic
import Derived.Outline
import Derived.Deep.RegionLaw
namespace Go.Proofs.Ytamkkpdhponhnaa.Nw
open Go.RowKit Go.Proofs.Ytamkkpdhponhnaa.Ow Go.Proofs.Ytamkkpdhponhnaa.PMailboxAll Go.Proofs.YtamkkpdhponhnaaW.PrintWords
set_option linter.unusedVariables false
set_option linter.unusedSimpArgs false

/-- How many letters of a topic, from number 0 on. -/
def countA (p : ByteArray) (ls : List S41) : Nat := (ls.filter (wantA p 0)).length
theorem countA_succ (p : ByteArray) {ls : List S41} {j : Nat} {l : S41} (h : ls[j]? = some l) : countA p (ls.take (j + 1)) = if wantA p 0 l = true then countA p (ls.take j) + 1 else countA p (ls.take j) := by
  obtain ⟨h1, h2⟩ := List.getElem?_eq_some_iff.1 h
  unfold countA
  rw [List.take_succ_eq_append_getElem h1, h2, List.filter_append, List.length_append]
  by_cases q : wantA p 0 l = true
  · rw [if_pos q]; simp [List.filter, q]
  · rw [if_neg q]; simp [List.filter, q]
theorem countA_bd (p : ByteArray) (ls : List S41) : countA p ls ≤ ls.length := List.length_filter_le _ _
/-- What is fetched: of a topic, from a number on, at most so many. -/
def fetchS (p : ByteArray) (fr most : Int) (acc : List S41) (l : S41) : List S41 := if (acc.length : Int) < most ∧ wantA p fr l = true then acc ++ [l] else acc
def fetchA (p : ByteArray) (fr most : Int) (ls : List S41) : List S41 := ls.foldl (fetchS p fr most) []
theorem fetchA_succ (p : ByteArray) (fr most : Int) {ls : List S41} {j : Nat} {l : S41} (h : ls[j]? = some l) : fetchA p fr most (ls.take (j + 1)) = fetchS p fr most (fetchA p fr most (ls.take j)) l := by
  obtain ⟨h1, h2⟩ := List.getElem?_eq_some_iff.1 h
  unfold fetchA
  rw [List.take_succ_eq_append_getElem h1, List.foldl_append, h2]
  rfl
theorem fetchA_bd (p : ByteArray) (fr most : Int) (ls : List S41) : (fetchA p fr most ls).length ≤ ls.length := by
  unfold fetchA
  suffices h : ∀ acc, (ls.foldl (fetchS p fr most) acc).length ≤ acc.length + ls.length by simpa using h []
  induction ls with
  | nil => intro acc; simp
  | cons l ls ih =>
    intro acc
    have := ih (fetchS p fr most acc l)
    have h2 : (fetchS p fr most acc l).length ≤ acc.length + 1 := by unfold fetchS; split <;> simp
    simp only [List.foldl_cons, List.length_cons]
    omega

set_option maxHeartbeats 2000000 in
theorem count_any (A : Option Addr) (n c : Nat) (A' : Option Addr) (n' c' : Nat) (ls : List S41) (p : ByteArray) (w : World) (hr : Rd dl w (.slice A' n' c') ls) (hl : ls.length ≤ 1000000) :
    Calls Try.prog 18 #[.agg #[.slice A n c, .slice A' n' c'], .string p] w fun e w' => e = .returned (.int .i64 (countA p ls)) ∧ Below w.heap.size w w' := by
  have hn := hr.len
  subst hn
  have H := Lib.hid (fun (W : World) (h : Below w.heap.size w W) => rd_step hr h)
  clear hr
  go_enter Try.func18, Try.ntmps18
  go_wp2_with (go_at_call 30; refine (of_any p 0 (.func (.func 31) #[] #[]) rfl _).mono ?_; rintro e w1 ⟨rfl, hb1, hs1, d0, d1, d2⟩; have hzk := hb1.size; (try simp at hzk); obtain ⟨hck, hfk⟩ := bcell hb1; have k0 : w1.cell? ⟨w.heap.size, 0, none⟩ = some (.slice A n c) := (hck _ _ (by first | omega | (simp <;> omega))).trans (by go_simp); have k1 : w1.cell? ⟨w.heap.size, 1, none⟩ = some (.slice A' ls.length c') := (hck _ _ (by first | omega | (simp <;> omega))).trans (by go_simp); have kt0 : w.heap.size < w1.heap.size := (by omega); have kt1 : w.heap.size < w1.heap.size + 1 := (by omega); clear hck hfk; (try simp at hs1 d0 d1 d2); have hs4 : w.heap.size + 4 ≤ w1.heap.size := (by omega); clear hs1)
  go_loopw [5, 14] (fun m i wr => ∃ j : Nat, j ≤ ls.length ∧ i = .int .i64 j ∧ m = .int .i64 (countA p (ls.take j) : Nat) ∧ Below w1.heap.size w1 wr) (fun _ i _ => ls.length - (intOf i).toNat)
  case atStart => exact ⟨0, by omega, rfl, rfl, (by repeat (first | exact Below.refl _ _ | with_reducible apply bel_drew | with_reducible apply bel_drewN | with_reducible apply bel_alloc | (with_reducible refine bel_set ?_ (by first | omega | (simp <;> omega)) _) | (with_reducible refine bel_step ?_ (by assumption)) | (with_reducible refine bel_step ?_ (grown_none (by assumption)))))⟩
  case round =>
    obtain ⟨j, hj, rfl, rfl, hbw⟩ := hrel
    have hzw := hbw.size
    by_cases hlt : j < ls.length
    · obtain ⟨l, ht⟩ : ∃ l, ls[j]? = some l := ⟨_, List.getElem?_eq_getElem hlt⟩
      obtain ⟨g, o, he, gl, c0, c1, c2⟩ : ∃ g o, A' = some ⟨g, o, none⟩ ∧ g < wr.heap.size ∧ wr.cell? ⟨g, o + j * 3, none⟩ = some (.string l.f0) ∧ wr.cell? ⟨g, o + j * 3 + 1, none⟩ = some (.int .i64 l.f1) ∧ wr.cell? ⟨g, o + j * 3 + 2, none⟩ = some (.string l.f2) := by
        obtain ⟨gh, oh, he, hlt', hcx⟩ := (H.out wr (bel_step (by repeat (first | exact Below.refl _ _ | with_reducible apply bel_drew | with_reducible apply bel_drewN | with_reducible apply bel_alloc | (with_reducible refine bel_set ?_ (by first | omega | (simp <;> omega)) _) | (with_reducible refine bel_step ?_ (by assumption)) | (with_reducible refine bel_step ?_ (grown_none (by assumption))))) hbw)).at_ ht
        exact ⟨gh, oh, he, hlt', hcx 0 _ rfl, hcx 1 _ rfl, hcx 2 _ rfl⟩
      subst he
      have gl1 : g < wr.heap.size + 1 := by omega
      have e0 : wr.cell? ⟨w.heap.size + 1, 0, none⟩ = some (.string p) := ((bcell hbw).1 _ _ (by omega)).trans d0
      have e1 : wr.cell? ⟨w.heap.size + 1 + 1, 0, none⟩ = some (.int .i64 0) := ((bcell hbw).1 _ _ (by omega)).trans d1
      have e2 : wr.cell? ⟨w.heap.size + 1 + 2, 0, none⟩ = some (.func (.func 31) #[] #[]) := ((bcell hbw).1 _ _ (by omega)).trans d2
      have z1 : w.heap.size + 4 ≤ wr.heap.size := by omega
      have z2 : w.heap.size + 1 < wr.heap.size := by omega
      have z3 : w.heap.size + 1 + 1 < wr.heap.size := by omega
      have z4 : w.heap.size + 1 + 2 < wr.heap.size := by omega
      have hcs := countA_succ p ht
      have hcb := countA_bd p (ls.take j)
      have hcl : (ls.take j).length ≤ 1000000 := by rw [List.length_take]; omega
      generalize countA p (ls.take j) = cj at hcs hcb ⊢
      have HS := Lib.hid hcs
      clear hcs
      have hcj : cj ≤ 1000000 := by omega
      clear hcb hcl
      by_cases hq : wantA p 0 l = true
      · have HQ : Hid (countA p (ls.take (j + 1)) = cj + 1) := Lib.hid (by rw [HS.out, if_pos hq])
        have hqw := Lib.hid hq
        clear hq HS ht
        go_wp2_with (go_at_call 43; refine (of1_any l (w.heap.size + 1) (w.heap.size + 1 + 1) (w.heap.size + 1 + 2) p 0 _ (by first | omega | (simp <;> omega)) (by first | omega | (simp <;> omega)) (by first | omega | (simp <;> omega)) (by go_simp) (by go_simp) (by go_simp)).mono ?_; rintro e w2 ⟨rfl, hb2⟩; rw [hqw.out])
        go_roundw
        case rel => exact ⟨j + 1, by omega, by go_num, by rw [HQ.out]; go_num, bel_step hbw (by repeat (first | exact Below.refl _ _ | with_reducible apply bel_drew | with_reducible apply bel_drewN | with_reducible apply bel_alloc | (with_reducible refine bel_set ?_ (by first | omega | (simp <;> omega)) _) | (with_reducible refine bel_step ?_ (by assumption)) | (with_reducible refine bel_step ?_ (grown_none (by assumption)))))⟩
        case measure => simp [intOf]; omega
      · have hq' : wantA p 0 l = false := by simpa using hq
        have HQ : Hid (countA p (ls.take (j + 1)) = cj) := Lib.hid (by rw [HS.out, if_neg hq])
        have hqw := Lib.hid hq'
        clear hq hq' HS ht
        go_wp2_with (go_at_call 43; refine (of1_any l (w.heap.size + 1) (w.heap.size + 1 + 1) (w.heap.size + 1 + 2) p 0 _ (by first | omega | (simp <;> omega)) (by first | omega | (simp <;> omega)) (by first | omega | (simp <;> omega)) (by go_simp) (by go_simp) (by go_simp)).mono ?_; rintro e w2 ⟨rfl, hb2⟩; rw [hqw.out])
        go_roundw
        case rel => exact ⟨j + 1, by omega, by go_num, by rw [HQ.out], bel_step hbw (by repeat (first | exact Below.refl _ _ | with_reducible apply bel_drew | with_reducible apply bel_drewN | with_reducible apply bel_alloc | (with_reducible refine bel_set ?_ (by first | omega | (simp <;> omega)) _) | (with_reducible refine bel_step ?_ (by assumption)) | (with_reducible refine bel_step ?_ (grown_none (by assumption)))))⟩
        case measure => simp [intOf]; omega
    · obtain rfl : j = ls.length := by omega
      rw [List.take_length]
      go_wp2
      go_ret
      exact ⟨rfl, (by repeat (first | exact (bel_step (bel_step (bel_alloc (Below.refl _ _) _) hb1) hbw) | exact Below.refl _ _ | with_reducible apply bel_drew | with_reducible apply bel_drewN | with_reducible apply bel_alloc | (with_reducible refine bel_set ?_ (by first | omega | (simp <;> omega)) _) | (with_reducible refine bel_step ?_ (by assumption)) | (with_reducible refine bel_step ?_ (grown_none (by assumption)))))⟩
end Go.Proofs.Ytamkkpdhponhnaa.Nw
