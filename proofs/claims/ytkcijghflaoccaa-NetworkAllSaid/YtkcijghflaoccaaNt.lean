/- The plain side of what the dice give: networks and happenings; and how the printed words and mine meet. -/
import Derived.Test.YtkcijghflaoccaaNq
import Derived.Test.YtkcijghflaoccaaPNetworkAllx4
import Derived.Test.YtkcijghflaoccaaPNetworkAllx3
namespace Go.Proofs.Ytkcijghflaoccaa.Nw
open Go.RowKit Go.Proofs.Ytkcijghflaoccaa.Ow Go.Proofs.Ytkcijghflaoccaa.PNetworkAll Go.Proofs.YtkcijghflaoccaaW.PrintWords
set_option linter.unusedVariables false
set_option linter.unusedSimpArgs false

theorem reps_flat {α : Type} {d : En α} {R : α → List Value → Prop} (hR : ∀ p c, R p c → c = d.enc p) {ps : List α} {cs : List Value} (h : Reps R d.sz ps cs) : cs = flat d ps := by
  obtain ⟨h1, h2⟩ := h
  apply List.ext_getElem?
  intro i
  by_cases hi : i < ps.length * d.sz
  · have hd := d.pos
    have hj : i / d.sz < ps.length := Nat.div_lt_of_lt_mul (by rw [Nat.mul_comm]; exact hi)
    have e : i = i / d.sz * d.sz + i % d.sz := by rw [Nat.mul_comm]; exact (Nat.div_add_mod i d.sz).symm
    have hm : i % d.sz < d.sz := Nat.mod_lt _ hd
    have hp : ps[i / d.sz]? = some ps[i / d.sz] := List.getElem?_eq_getElem hj
    have hr := hR _ _ (h2 _ _ hp)
    rw [e, flat_get hp hm, ← hr]
    rw [List.getElem?_take_of_lt hm, List.getElem?_drop]
  · rw [List.getElem?_eq_none (by omega), List.getElem?_eq_none (by rw [flat_length]; omega)]

theorem own_of_R {w : World} {base : Nat} {ok : Nat → Prop} {v : Value} {xs : List S39} (h : k39.R 39 w base ok v xs) : Own dk 39 w base v xs := by
  obtain ⟨_, inner, ho, hr⟩ := h
  have e := reps_flat (d := dk) (fun p c hp => k39_openM hp) hr
  rw [e] at ho
  exact ho
theorem own_of_R34 {w : World} {base : Nat} {ok : Nat → Prop} {v : Value} {xs : List S34} (h : k34.R 34 w base ok v xs) : Own dh 34 w base v xs := by
  obtain ⟨_, inner, ho, hr⟩ := h
  have e := reps_flat (d := dh) (fun p c hp => k34_openM hp) hr
  rw [e] at ho
  exact ho

theorem C_of_rd {w : World} {A : Option Addr} {n c : Nat} {xs : List S39} (h : Rd dk w (.slice A n c) xs) : k39.C w A n xs := by
  have hn := h.len
  have hc := h.cap
  refine ⟨hn.symm, by unfold maxLen at hc; omega, fun h0 => ?_⟩
  rcases h with ⟨hv, rfl⟩ | ⟨g, o, c', hv, h1, h2, h3, h4⟩
  · simp at hn; omega
  · simp only [Value.slice.injEq] at hv
    obtain ⟨rfl, _, _⟩ := hv
    refine ⟨⟨g, o, none⟩, rfl, fun j p hj => ⟨dk.enc p, rfl, k39_mk w p, fun i u hu => ?_⟩⟩
    have hi : i < dk.sz := by
      have := (List.getElem?_eq_some_iff.1 hu).1
      rw [dk.len] at this; exact this
    rw [Addr.add_lit]
    exact h4 _ _ (by show (flat dk xs)[j * dk.sz + i]? = some u; rw [flat_get hj hi]; exact hu)
end Go.Proofs.Ytkcijghflaoccaa.Nw
