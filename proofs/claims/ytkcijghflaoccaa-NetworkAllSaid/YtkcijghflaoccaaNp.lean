/- Do, whole: the program's and the document's answer is doR. -/
import Derived.Test.YtkcijghflaoccaaNg
import Derived.Test.YtkcijghflaoccaaNh
import Derived.Test.YtkcijghflaoccaaNi
import Derived.Test.YtkcijghflaoccaaNj
import Derived.Test.YtkcijghflaoccaaNk
import Derived.Test.YtkcijghflaoccaaNl
import Derived.Test.YtkcijghflaoccaaNm
import Derived.Test.YtkcijghflaoccaaNn
import Derived.Test.YtkcijghflaoccaaNo
namespace Go.Proofs.Ytkcijghflaoccaa.Nw
open Go.RowKit Go.Proofs.Ytkcijghflaoccaa.Ow Go.Proofs.Ytkcijghflaoccaa.PNetworkAll
set_option linter.unusedVariables false
set_option linter.unusedSimpArgs false

/-- Bodies are short. -/
def Short (xs : List S39) : Prop := ∀ x ∈ xs, x.f2.size ≤ 1000
theorem short_at {xs : List S39} (h : Short xs) {k : Nat} {x : S39} (hx : xs[k]? = some x) : x.f2.size ≤ 1000 := h x (List.mem_of_getElem? hx)

theorem forge_size (s : ByteArray) (p v : Int) : (forge s p v).size = s.size := by
  unfold forge
  split
  · rfl
  · show (List.toArray _).size = _
    simp

theorem getD_mem {xs : List S39} {k : Nat} (h : k < xs.length) : xs.getD k z39 ∈ xs := by
  rw [List.getD_eq_getElem?_getD, List.getElem?_eq_getElem h]
  exact List.getElem_mem h

theorem cut_mem {xs : List S39} {k : Nat} {x : S39} (h : x ∈ cut xs k) : x ∈ xs := by
  unfold cut at h
  rcases List.mem_append.1 h with h | h
  · exact List.mem_of_mem_take h
  · exact List.mem_of_mem_drop h

theorem doR_short {xs : List S39} (h : S34) (hs : Short xs) : Short (doR xs h).1 ∧ Short (doR xs h).2.1 := by
  unfold doR
  split
  · exact ⟨hs, fun x hx => by simp at hx⟩
  · split
    · exact ⟨hs, fun x hx => by simp at hx⟩
    · rename_i h0 h1
      obtain ⟨_, hlt, _⟩ := spot_at (h := h) h1
      have hm := hs _ (getD_mem hlt)
      dsimp only
      split
      · exact ⟨fun x hx => hs x (cut_mem hx), fun x hx => by simp at hx; rw [hx]; exact hm⟩
      · split
        · exact ⟨fun x hx => hs x (cut_mem hx), fun x hx => by simp at hx⟩
        · split
          · refine ⟨fun x hx => ?_, fun x hx => by simp at hx⟩
            rcases List.mem_append.1 hx with hx | hx
            · exact hs x hx
            · simp at hx; rw [hx]; exact hm
          · split
            · refine ⟨fun x hx => ?_, fun x hx => by simp at hx⟩
              rcases List.mem_append.1 hx with hx | hx
              · exact hs x (cut_mem hx)
              · simp at hx; rw [hx]; exact hm
            · refine ⟨fun x hx => ?_, fun x hx => by simp at hx⟩
              rcases List.mem_or_eq_of_mem_set hx with hx | hx
              · exact hs x hx
              · rw [hx]; unfold forged; rw [forge_size]; exact hm

theorem doR_len (xs : List S39) (h : S34) : (doR xs h).1.length ≤ xs.length + 1 ∧ (doR xs h).2.1.length ≤ 1 := by
  unfold doR
  split
  · simp
  · split
    · simp
    · rename_i h0 h1
      obtain ⟨_, hlt, _⟩ := spot_at (h := h) h1
      have hc := cut_length hlt
      dsimp only
      split
      · simp [hc] <;> omega
      · split
        · simp [hc] <;> omega
        · split
          · simp
          · split
            · simp [hc] <;> omega
            · simp

theorem do_any (p : Int) (A : Option Addr) (n c : Nat) (xs : List S39) (h : S34) (w : World) (hr : Rd dk w (.slice A n c) xs) (hl : xs.length < 64) (hb : Short xs) :
    Calls Try.prog 12 #[.agg #[.int .i64 p, .slice A n c], .agg #[.int .i64 h.f0, .int .i64 h.f1, .int .i64 h.f2, .int .i64 h.f3]] w fun e w' => DoIs w e w' p (doR xs h) := by
  obtain ⟨K, h1, h2, h3⟩ := h
  unfold doR
  dsimp only
  by_cases c1 : K < 1
  · rw [if_pos (Or.inl c1)]
    exact do_lo p A n c xs K h1 h2 h3 w hr hl c1
  by_cases c2 : 5 < K
  · rw [if_pos (Or.inr c2)]
    exact do_hi p A n c xs K h1 h2 h3 w hr hl c1 c2
  rw [if_neg (by omega)]
  by_cases c3 : xs.length = 0
  · rw [if_pos c3]
    exact do_empty p A n c xs K h1 h2 h3 w hr hl c1 c2 c3
  rw [if_neg c3]
  obtain ⟨e1, e2, e3⟩ := spot_at (h := ⟨K, h1, h2, h3⟩) c3
  generalize hk : spot xs ⟨K, h1, h2, h3⟩ = k at e1 e2 e3 ⊢
  generalize hx : xs.getD k z39 = x at e3 ⊢
  by_cases d1 : K = 1
  · rw [if_pos d1]; subst d1
    exact do_k1any p A n c xs h1 h2 h3 w hr hl x k e1 e3
  rw [if_neg d1]
  by_cases d2 : K = 2
  · rw [if_pos d2]; subst d2
    exact do_k2any p A n c xs h1 h2 h3 w hr hl x k e1 e3
  rw [if_neg d2]
  by_cases d3 : K = 3
  · rw [if_pos d3]; subst d3
    exact do_k3any p A n c xs h1 h2 h3 w hr hl x k e1 e3
  rw [if_neg d3]
  by_cases d4 : K = 4
  · rw [if_pos d4]; subst d4
    exact do_k4any p A n c xs h1 h2 h3 w hr hl x k e1 e3
  rw [if_neg d4]
  obtain rfl : K = 5 := by omega
  exact do_k5any p A n c xs h1 h2 h3 w hr hl x k e1 e3 (short_at hb e3)

theorem do_ref (p : Int) (A : Option Addr) (n c : Nat) (xs : List S39) (h : S34) (w : World) (hr : Rd dk w (.slice A n c) xs) (hl : xs.length < 64) (hb : Short xs) :
    Calls Try.prog 18 #[.agg #[.int .i64 p, .slice A n c], .agg #[.int .i64 h.f0, .int .i64 h.f1, .int .i64 h.f2, .int .i64 h.f3]] w fun e w' => DoIs w e w' p (doR xs h) := by
  obtain ⟨K, h1, h2, h3⟩ := h
  unfold doR
  dsimp only
  by_cases c1 : K < 1
  · rw [if_pos (Or.inl c1)]
    exact dor_lo p A n c xs K h1 h2 h3 w hr hl c1
  by_cases c2 : 5 < K
  · rw [if_pos (Or.inr c2)]
    exact dor_hi p A n c xs K h1 h2 h3 w hr hl c1 c2
  rw [if_neg (by omega)]
  by_cases c3 : xs.length = 0
  · rw [if_pos c3]
    exact dor_empty p A n c xs K h1 h2 h3 w hr hl c1 c2 c3
  rw [if_neg c3]
  obtain ⟨e1, e2, e3⟩ := spot_at (h := ⟨K, h1, h2, h3⟩) c3
  generalize hk : spot xs ⟨K, h1, h2, h3⟩ = k at e1 e2 e3 ⊢
  generalize hx : xs.getD k z39 = x at e3 ⊢
  by_cases d1 : K = 1
  · rw [if_pos d1]; subst d1
    exact dor_k1 p A n c xs h1 h2 h3 w hr hl x k e1 e3
  rw [if_neg d1]
  by_cases d2 : K = 2
  · rw [if_pos d2]; subst d2
    exact dor_k2 p A n c xs h1 h2 h3 w hr hl x k e1 e3
  rw [if_neg d2]
  by_cases d3 : K = 3
  · rw [if_pos d3]; subst d3
    exact do_k3ref p A n c xs h1 h2 h3 w hr hl x k e1 e3
  rw [if_neg d3]
  by_cases d4 : K = 4
  · rw [if_pos d4]; subst d4
    exact dor_k4 p A n c xs h1 h2 h3 w hr hl x k e1 e3
  rw [if_neg d4]
  obtain rfl : K = 5 := by omega
  by_cases d5 : x.f2.size = 0
  · exact dor_k5a p A n c xs h1 h2 h3 w hr hl x k e1 e3 d5
  · exact dor_k5b p A n c xs h1 h2 h3 w hr hl x k e1 e3 (short_at hb e3) (by omega)

end Go.Proofs.Ytkcijghflaoccaa.Nw
