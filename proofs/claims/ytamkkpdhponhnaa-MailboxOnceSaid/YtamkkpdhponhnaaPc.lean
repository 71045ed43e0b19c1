/- How the printed words and mine meet; the document's contracts. -/
import Derived.Test.YtamkkpdhponhnaaPb
import Derived.Test.YtamkkpdhponhnaaPMailboxAllx6
import Derived.LoopTactic
import Derived.Outline
namespace Go.Proofs.Ytamkkpdhponhnaa.Nw
open Go.RowKit Go.Proofs.Ytamkkpdhponhnaa.Ow Go.Proofs.Ytamkkpdhponhnaa.PMailboxAll Go.Proofs.YtamkkpdhponhnaaW.PrintWords
set_option linter.unusedVariables false
set_option linter.unusedSimpArgs false

theorem reps_flat {α : Type} {d : En α} {R : α → List Value → Prop} (hR : ∀ p c, R p c → c = d.enc p) {ps : List α} {cs : List Value} (h : Reps R d.sz ps cs) : cs = flat d ps := by
  obtain ⟨h1, h2⟩ := h
  apply List.ext_getElem?
  intro i
  by_cases hi : i < ps.length * d.sz
  · have hd := d.pos
    have hj : i / d.sz < ps.length := Nat.div_lt_of_lt_mul (by rw [Nat.mul_comm]; exact hi)
    have e : i = i / d.sz * d.sz + i % d.sz := by rw [Nat.mul_comm]; exact (Nat.div_add_mod i d.sz).symm
    have hm : i % d.sz < d.sz := Nat.mod_lt _ hd
    have hp : ps[i / d.sz]? = some ps[i / d.sz] := List.getElem?_eq_getElem hj
    have hr := hR _ _ (h2 _ _ hp)
    rw [e, flat_get hp hm, ← hr]
    rw [List.getElem?_take_of_lt hm, List.getElem?_drop]
  · rw [List.getElem?_eq_none (by omega), List.getElem?_eq_none (by rw [flat_length]; omega)]

theorem own_of_RL {w : World} {base : Nat} {ok : Nat → Prop} {v : Value} {xs : List S41} (h : k41.R 41 w base ok v xs) : Own dl 41 w base v xs := by
  obtain ⟨_, inner, ho, hr⟩ := h
  have e := reps_flat (d := dl) (fun p c hp => k41_openM hp) hr
  rw [e] at ho
  exact ho
theorem CT_of_rd {w : World} {A : Option Addr} {n c : Nat} {xs : List S56} (h : Rd dt w (.slice A n c) xs) : k56.C w A n xs := by
  have hn := h.len
  have hc := h.cap
  refine ⟨hn.symm, by unfold maxLen at hc; omega, fun h0 => ?_⟩
  rcases h with ⟨hv, rfl⟩ | ⟨g, o, c', hv, h1, h2, h3, h4⟩
  · simp at hn; omega
  · simp only [Value.slice.injEq] at hv
    obtain ⟨rfl, _, _⟩ := hv
    refine ⟨⟨g, o, none⟩, rfl, fun j p hj => ⟨dt.enc p, rfl, k56_mk w p, fun i u hu => ?_⟩⟩
    have hi : i < dt.sz := by
      have := (List.getElem?_eq_some_iff.1 hu).1
      rw [dt.len] at this; exact this
    rw [Addr.add_lit]
    exact h4 _ _ (by show (flat dt xs)[j * dt.sz + i]? = some u; rw [flat_get hj hi]; exact hu)
theorem CL_of_rd {w : World} {A : Option Addr} {n c : Nat} {xs : List S41} (h : Rd dl w (.slice A n c) xs) : k41.C w A n xs := by
  have hn := h.len
  have hc := h.cap
  refine ⟨hn.symm, by unfold maxLen at hc; omega, fun h0 => ?_⟩
  rcases h with ⟨hv, rfl⟩ | ⟨g, o, c', hv, h1, h2, h3, h4⟩
  · simp at hn; omega
  · simp only [Value.slice.injEq] at hv
    obtain ⟨rfl, _, _⟩ := hv
    refine ⟨⟨g, o, none⟩, rfl, fun j p hj => ⟨dl.enc p, rfl, k41_mk w p, fun i u hu => ?_⟩⟩
    have hi : i < dl.sz := by
      have := (List.getElem?_eq_some_iff.1 hu).1
      rw [dl.len] at this; exact this
    rw [Addr.add_lit]
    exact h4 _ _ (by show (flat dl xs)[j * dl.sz + i]? = some u; rw [flat_get hj hi]; exact hu)
theorem wrap_succ {i : Int} (h0 : 0 ≤ i) (h : i ≤ 1000000000) : wrap64 (i + 1) = i + 1 := by unfold wrap64; omega
theorem place_loop (p : ByteArray) (ts : List S56) (hb : ts.length ≤ 1000000) : ∀ (d k i : Nat), i ≤ ts.length → ts.length - i = d → d < k →
    keyeventref41_place.l0 k p ts (ts.length : Int) (i : Int) = some (placeFrom p (ts.drop i) i) := by
  intro d
  induction d with
  | zero =>
    intro k i h0 hd hk
    obtain ⟨k, rfl⟩ : ∃ m, k = m + 1 := ⟨k - 1, by omega⟩
    simp only [keyeventref41_place.l0]
    rw [if_neg (by omega), List.drop_eq_nil_of_le (by omega)]
    rfl
  | succ d ih =>
    intro k i h0 hd hk
    obtain ⟨k, rfl⟩ : ∃ m, k = m + 1 := ⟨k - 1, by omega⟩
    have hi : i < ts.length := by omega
    simp only [keyeventref41_place.l0]
    rw [if_pos (by omega), if_pos (by omega), if_pos (by omega), wrap_succ (by omega) (by omega)]
    have hr : rd_T56 ts (i : Int) = ts[i] := by unfold rd_T56; simp [List.getD, hi]
    rw [hr, List.drop_eq_getElem_cons hi]
    unfold placeFrom
    split
    · rfl
    · have := ih k (i + 1) (by omega) (by omega) (by omega)
      rw [← this]; rfl
theorem place_f (p : ByteArray) (ts : List S56) (ls : List S41) (hb : ts.length ≤ 1000000) : keyeventref41_place.f (ts.length + 1) ts ls p = some (placeI ts p) := by
  unfold keyeventref41_place.f
  exact place_loop p ts hb ts.length (ts.length + 1) 0 (by omega) (by omega) (by omega)
theorem place_ref (A : Option Addr) (n c : Nat) (ts : List S56) (A' : Option Addr) (n' c' : Nat) (ls : List S41) (p : ByteArray) (w : World) (hr : Rd dt w (.slice A n c) ts) (hr' : Rd dl w (.slice A' n' c') ls) (hl : ts.length ≤ 1000000) :
    Calls Try.prog 36 #[.agg #[.slice A n c, .slice A' n' c'], .string p] w fun e w' => e = .returned (.int .i64 (placeI ts p)) ∧ Below w.heap.size w w' := by
  obtain rfl := hr.len
  obtain rfl := hr'.len
  exact keyeventref41_place.calls (ts.length + 1) A c ts A' c' ls p _ w (CT_of_rd hr) hr.cap.1 (CL_of_rd hr') hr'.cap.1 (place_f p ts ls hl)
theorem next_f (p : ByteArray) (ts : List S56) (ls : List S41) (hb : ts.length ≤ 1000000) : keyeventref41_Next.f (ts.length + 1) ts ls p = some (nextP ts p) := by
  unfold keyeventref41_Next.f nextP
  rw [place_f p ts ls hb]
  simp only [Option.bind]
  rcases placeI_bd ts p with h | ⟨k, h, hk⟩
  · rw [h, if_neg (by omega), if_pos (by omega)]
  · rw [h, if_pos (by omega), if_pos (by omega), if_pos (by omega), if_neg (by omega)]
    rfl
theorem next_ref (A : Option Addr) (n c : Nat) (ts : List S56) (A' : Option Addr) (n' c' : Nat) (ls : List S41) (p : ByteArray) (w : World) (hr : Rd dt w (.slice A n c) ts) (hr' : Rd dl w (.slice A' n' c') ls) (hl : ts.length ≤ 1000000) :
    Calls Try.prog 25 #[.agg #[.slice A n c, .slice A' n' c'], .string p] w fun e w' => e = .returned (.int .i64 (nextP ts p)) ∧ Below w.heap.size w w' := by
  obtain rfl := hr.len
  obtain rfl := hr'.len
  exact keyeventref41_Next.calls (ts.length + 1) A c ts A' c' ls p _ w (CT_of_rd hr) hr.cap.1 (CL_of_rd hr') hr'.cap.1 (next_f p ts ls hl)

set_option maxHeartbeats 1000000 in
theorem next_any (A : Option Addr) (n c : Nat) (ts : List S56) (l : Value) (hl1 : ∃ B m d, l = .slice B m d) (p : ByteArray) (w : World) (hr : Rd dt w (.slice A n c) ts) (hl : ts.length ≤ 1000000) :
    Calls Try.prog 13 #[.agg #[.slice A n c, l], .string p] w fun e w' => e = .returned (.int .i64 (nextP ts p)) ∧ Below w.heap.size w w' := by
  obtain ⟨B, m, d, rfl⟩ := hl1
  have hn := hr.len
  subst hn
  have H := Lib.hid (fun (W : World) (h : Below w.heap.size w W) => rd_step hr h)
  clear hr
  go_enter Try.func13, Try.ntmps13
  go_wp2_with fail
  refine (find_any A ts.length c ts (.slice B m d) p _ (H.out _ (by repeat (first | exact Below.refl _ _ | with_reducible apply bel_drew | with_reducible apply bel_drewN | with_reducible apply bel_alloc | (with_reducible refine bel_set ?_ (by first | omega | (simp <;> omega)) _) | (with_reducible refine bel_step ?_ (by assumption)) | (with_reducible refine bel_step ?_ (grown_none (by assumption)))))) hl).mono ?_
  rintro e w1 ⟨rfl, hb1⟩
  have hzk := hb1.size; (try simp at hzk); obtain ⟨hck, hfk⟩ := bcell hb1; have k0 : w1.cell? ⟨w.heap.size, 0, none⟩ = some (.slice A ts.length c) := (hck _ _ (by first | omega | (simp <;> omega))).trans (by go_simp); have k1 : w1.cell? ⟨w.heap.size, 1, none⟩ = some (.slice B m d) := (hck _ _ (by first | omega | (simp <;> omega))).trans (by go_simp); have kt0 : w.heap.size < w1.heap.size := (by omega); have kt1 : w.heap.size < w1.heap.size + 1 := (by omega); clear hck hfk
  rcases placeI_bd ts p with h | ⟨k, h, hk⟩
  · have hq : nextP ts p = 0 := by unfold nextP; rw [h]; rfl
    rw [h]
    have HQ := Lib.hid hq
    clear hq
    go_wp2
    go_ret
    exact ⟨by rw [HQ.out]; rfl, (by repeat (first | exact Below.refl _ _ | with_reducible apply bel_drew | with_reducible apply bel_drewN | with_reducible apply bel_alloc | (with_reducible refine bel_set ?_ (by first | omega | (simp <;> omega)) _) | (with_reducible refine bel_step ?_ (by assumption)) | (with_reducible refine bel_step ?_ (grown_none (by assumption)))))⟩
  · obtain ⟨t, ht⟩ : ∃ t, ts[k]? = some t := ⟨_, List.getElem?_eq_getElem hk⟩
    have hq : nextP ts p = t.f1 := by
      unfold nextP
      rw [h, if_neg (by omega)]
      show (ts.getD k z56).f1 = t.f1
      rw [List.getD_eq_getElem?_getD, ht]; rfl
    obtain ⟨g, o, he, gl, c0, c1⟩ : ∃ g o, A = some ⟨g, o, none⟩ ∧ g < w1.heap.size ∧ w1.cell? ⟨g, o + k * 2, none⟩ = some (.string t.f0) ∧ w1.cell? ⟨g, o + k * 2 + 1, none⟩ = some (.int .i64 t.f1) := by
      obtain ⟨gh, oh, he, hlt', hcx⟩ := (H.out w1 (by repeat (first | exact Below.refl _ _ | with_reducible apply bel_drew | with_reducible apply bel_drewN | with_reducible apply bel_alloc | (with_reducible refine bel_set ?_ (by first | omega | (simp <;> omega)) _) | (with_reducible refine bel_step ?_ (by assumption)) | (with_reducible refine bel_step ?_ (grown_none (by assumption)))))).at_ ht
      exact ⟨gh, oh, he, hlt', hcx 0 _ rfl, hcx 1 _ rfl⟩
    subst he
    rw [h]
    have HQ := Lib.hid hq
    clear hq ht
    go_wp2
    go_ret
    exact ⟨by rw [HQ.out]; rfl, (by repeat (first | exact Below.refl _ _ | with_reducible apply bel_drew | with_reducible apply bel_drewN | with_reducible apply bel_alloc | (with_reducible refine bel_set ?_ (by first | omega | (simp <;> omega)) _) | (with_reducible refine bel_step ?_ (by assumption)) | (with_reducible refine bel_step ?_ (grown_none (by assumption)))))⟩
end Go.Proofs.Ytamkkpdhponhnaa.Nw
