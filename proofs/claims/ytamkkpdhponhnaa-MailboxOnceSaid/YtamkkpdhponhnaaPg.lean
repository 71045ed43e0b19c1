/- A list of letters of the call's own: an element written, the tail cleared. -/
import Derived.Test.YtamkkpdhponhnaaPf
import Derived.LoopTactic
import Derived.Outline
import Derived.Deep.RegionLaw
import Derived.Lib.SliceRun
namespace Go.Proofs.Ytamkkpdhponhnaa.Nw
open Go.RowKit Go.Proofs.Ytamkkpdhponhnaa.Ow Go.Proofs.Ytamkkpdhponhnaa.PMailboxAll Go.Proofs.YtamkkpdhponhnaaW.PrintWords
set_option linter.unusedVariables false
set_option linter.unusedSimpArgs false

/-- A letter is written into a list of the call's own. -/
theorem own_letter {w : World} {B n c : Nat} {g : Nat} {xs : List S41} {k : Nat} (h : Own dl 41 w B (.slice (some ⟨g, 0, none⟩) n c) xs) (hk : k < xs.length) (v : S41) :
    Own dl 41 (((w.setCell ⟨g, k * 3, none⟩ (.string v.f0)).setCell ⟨g, k * 3 + 1, none⟩ (.int .i64 v.f1)).setCell ⟨g, k * 3 + 2, none⟩ (.string v.f2)) B (.slice (some ⟨g, 0, none⟩) n c) (xs.set k v) := by
  have hl : n = xs.length := h.rd.len
  subst hl
  have h1 := (World.ownsRow.stored h (k * 3) (.string v.f0)).1
  have h2 := (World.ownsRow.stored h1 (k * 3 + 1) (.int .i64 v.f1)).1
  have h3 := (World.ownsRow.stored h2 (k * 3 + 2) (.string v.f2)).1
  unfold Own
  rw [List.length_set]
  have e : (((flat dl xs).set (k * 3) (.string v.f0)).set (k * 3 + 1) (.int .i64 v.f1)).set (k * 3 + 2) (.string v.f2) = flat dl (xs.set k v) := by
    have hsp : xs = xs.take k ++ (xs[k] :: xs.drop (k + 1)) := by
      rw [← List.drop_eq_getElem_cons hk, List.take_append_drop]
    generalize xs[k] = x at hsp
    have htk : (xs.take k).length = k := by simp; omega
    generalize xs.take k = pre at hsp htk
    generalize xs.drop (k + 1) = post at hsp
    subst hsp
    have hfl : (flat dl pre).length = k * 3 := by rw [flat_length, htk]; rfl
    rw [List.set_append_right _ _ (by omega), htk, Nat.sub_self, List.set_cons_zero, flat_append, flat_append, flat_cons, flat_cons]
    rw [List.set_append_right _ _ (by omega), hfl, List.set_append_right _ _ (by omega), hfl, List.set_append_right _ _ (by omega), hfl]
    rw [Nat.sub_self, show k * 3 + 1 - k * 3 = 1 by omega, show k * 3 + 2 - k * 3 = 2 by omega]
    rfl
  rw [← e]
  exact h3
/-- The head of a list of the call's own. -/
theorem own_take {w : World} {B n c g k : Nat} {xs : List S41} (h : Own dl 41 w B (.slice (some ⟨g, 0, none⟩) n c) xs) (hk : k ≤ xs.length) : Own dl 41 w B (.slice (some ⟨g, 0, none⟩) k c) (xs.take k) := by
  have hl : n = xs.length := h.rd.len
  subst hl
  have e : (xs.take k).length = k := by simp; omega
  unfold Own
  rw [e]
  obtain ⟨h1, h2⟩ := h
  refine ⟨by rw [flat_length, e], ?_⟩
  rcases h2 with ⟨h', _⟩ | ⟨g', cap, cur, h', hb, hg, hnc, hcm, hcs, htake⟩
  · simp at h'
  · simp only [Value.slice.injEq, Option.some.injEq] at h'
    obtain ⟨h3, _, h5⟩ := h'
    refine Or.inr ⟨g', cap, cur, by rw [h3, h5], hb, hg, by omega, hcm, hcs, ?_⟩
    rw [flat_take, ← htake, List.take_take]
    congr 1
    have : k * dl.sz ≤ xs.length * dl.sz := Nat.mul_le_mul_right _ hk
    omega
/-- What lies behind it is written. -/
theorem own_behind {B n c g : Nat} {xs : List S41} : ∀ (vs : List Value) (o : Nat) {w : World}, Own dl 41 w B (.slice (some ⟨g, 0, none⟩) n c) xs → xs.length * 3 ≤ o → Own dl 41 (w.setCells g o vs) B (.slice (some ⟨g, 0, none⟩) n c) xs
  | [], _, _, h, _ => h
  | v :: vs, o, w, h, ho => by
    have hl : n = xs.length := h.rd.len
    subst hl
    have h1 := (World.ownsRow.stored h o v).1
    rw [List.set_eq_of_length_le (by rw [flat_length]; exact ho)] at h1
    exact own_behind vs (o + 1) h1 (by omega)
theorem run_clear_L (w : World) (ty : TypeId) (b o n c : Nat) (hn : 0 < n) (hc : ∀ j, j < n * 3 → (w.cell? ⟨b, o + j, none⟩).isSome = true) (hf : ∀ j, j < n * 3 → w.frozen? ⟨b, o + j, none⟩ = false) :
    (Builtin.clear_ #[28] ty #[.slice (some ⟨b, o, none⟩) n c]).run Try.prog w = .ok (.tuple #[]) (w.setCells b o (Builtin.zeroCells (Value.agg #[.string ⟨#[]⟩, .int .i64 0, .string ⟨#[]⟩]).cells n).toList) := by
  obtain ⟨m, rfl⟩ : ∃ m, n = m + 1 := ⟨n - 1, by omega⟩
  obtain ⟨i0, hi, hz0, hs0, hz2⟩ := info_parts info41
  have hv : ∀ w, (zeroValue 41).run Try.prog w = .ok (.agg #[.string ⟨#[]⟩, .int .i64 0, .string ⟨#[]⟩]) w := fun w => by
    first | kernel_rfl | rfl
  have hlen : (Builtin.zeroCells (Value.agg #[.string ⟨#[]⟩, .int .i64 0, .string ⟨#[]⟩]).cells (m + 1)).toList.length = (m + 1) * 3 := by
    simp [Builtin.zeroCells, Value.cells]
  have hst := run_storeCells_cells (P := Try.prog) b o (Builtin.zeroCells (Value.agg #[.string ⟨#[]⟩, .int .i64 0, .string ⟨#[]⟩]).cells (m + 1)).toList 0 w (by rw [hlen]; simpa using hc) (by rw [hlen]; simpa using hf) (by
    intro v hv'
    obtain ⟨q, hq, rfl⟩ := List.getElem_of_mem hv'
    have h3 : q % 3 = 0 ∨ q % 3 = 1 ∨ q % 3 = 2 := by omega
    rcases h3 with h | h | h <;> simp [Builtin.zeroCells, Value.cells, h] <;> rfl)
  simp only [Nat.add_zero] at hst
  simp [Builtin.clear_, run_underlying Try.underlying28, hv, hst]
end Go.Proofs.Ytamkkpdhponhnaa.Nw
