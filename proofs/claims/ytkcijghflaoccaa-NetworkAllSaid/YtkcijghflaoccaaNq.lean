/- Run: the words of its loop. -/
import Derived.Test.YtkcijghflaoccaaNp
namespace Go.Proofs.Ytkcijghflaoccaa.Nw
open Go.RowKit Go.Proofs.Ytkcijghflaoccaa.Ow Go.Proofs.Ytkcijghflaoccaa.PNetworkAll
set_option linter.unusedVariables false
set_option linter.unusedSimpArgs false

def dh : En S34 := { enc := fun x => [.int .i64 x.f0, .int .i64 x.f1, .int .i64 x.f2, .int .i64 x.f3], sz := 4, pos := by omega, len := fun _ => rfl, one := fun x u hu => by simp at hu; rcases hu with rfl | rfl | rfl | rfl <;> rfl }

def runS (s : List S39 × List S39) (h : S34) : List S39 × List S39 := ((doR s.1 h).1, s.2 ++ (doR s.1 h).2.1)
/-- What Run answers: the packets behind it, and what is delivered. -/
def runR (xs : List S39) (hs : List S34) : List S39 × List S39 := hs.foldl runS (xs, [])
def runTo (xs : List S39) (hs : List S34) (k : Nat) : List S39 × List S39 := runR xs (hs.take k)
theorem runTo_succ {xs : List S39} {hs : List S34} {k : Nat} {h : S34} (hh : hs[k]? = some h) : runTo xs hs (k + 1) = runS (runTo xs hs k) h := by
  obtain ⟨h1, h2⟩ := List.getElem?_eq_some_iff.1 hh
  unfold runTo runR
  rw [List.take_succ_eq_append_getElem h1, List.foldl_append, h2]
  rfl
theorem runTo_all (xs : List S39) (hs : List S34) : runTo xs hs hs.length = runR xs hs := by unfold runTo; rw [List.take_length]
theorem runR_bd (xs : List S39) (hs : List S34) (hb : Short xs) : (runR xs hs).1.length ≤ xs.length + hs.length ∧ (runR xs hs).2.length ≤ hs.length ∧ Short (runR xs hs).1 ∧ Short (runR xs hs).2 := by
  unfold runR
  suffices h : ∀ (s : List S39 × List S39), Short s.1 → Short s.2 → (hs.foldl runS s).1.length ≤ s.1.length + hs.length ∧ (hs.foldl runS s).2.length ≤ s.2.length + hs.length ∧ Short (hs.foldl runS s).1 ∧ Short (hs.foldl runS s).2 by
    have := h (xs, []) hb (fun x hx => by simp at hx)
    simpa using this
  intro s
  induction hs generalizing s with
  | nil => intro a b; exact ⟨by simp, by simp, a, b⟩
  | cons h hs ih =>
    intro a b
    have l := doR_len s.1 h
    have sh := doR_short h a
    have := ih (runS s h) sh.1 (fun x hx => by
      rcases List.mem_append.1 hx with hx | hx
      · exact b x hx
      · exact sh.2 x hx)
    simp only [List.foldl_cons, List.length_cons]
    refine ⟨?_, ?_, this.2.2⟩
    · have h1 := this.1
      have : (runS s h).1.length ≤ s.1.length + 1 := l.1
      omega
    · have h1 := this.2.1
      have : (runS s h).2.length ≤ s.2.length + 1 := by unfold runS; simp; omega
      omega
theorem runTo_bd (xs : List S39) (hs : List S34) (k : Nat) (hb : Short xs) : (runTo xs hs k).1.length ≤ xs.length + hs.length ∧ (runTo xs hs k).2.length ≤ hs.length ∧ Short (runTo xs hs k).1 ∧ Short (runTo xs hs k).2 := by
  have := runR_bd xs (hs.take k) hb
  have hl : (hs.take k).length ≤ hs.length := by simp; omega
  exact ⟨by unfold runTo; omega, by unfold runTo; omega, this.2.2⟩

/-- What the loop of Run keeps: the network's variable lies at B, the result's at w.heap.size + 1. -/
def RunI (w : World) (B : Nat) (p : Int) (xk acc : List S39) (v : Value) (wr : World) : Prop :=
  ∃ Ak ck Aa ca, v = .slice Aa acc.length ca ∧ Below w.heap.size w wr ∧ w.heap.size + 2 ≤ B ∧ B < wr.heap.size ∧
    wr.cell? ⟨B, 0, none⟩ = some (.int .i64 p) ∧ wr.cell? ⟨B, 1, none⟩ = some (.slice Ak xk.length ck) ∧ wr.frozen? ⟨B, 0, none⟩ = false ∧ wr.frozen? ⟨B, 1, none⟩ = false ∧
    wr.cell? ⟨w.heap.size + 1, 0, none⟩ = some (.int .i64 0) ∧ wr.cell? ⟨w.heap.size + 1, 1, none⟩ = some (.slice none 0 0) ∧ wr.frozen? ⟨w.heap.size + 1, 0, none⟩ = false ∧ wr.frozen? ⟨w.heap.size + 1, 1, none⟩ = false ∧
    Own dk 39 wr w.heap.size (.slice Ak xk.length ck) xk ∧ (∀ k, (Value.slice Ak xk.length ck).ownBlock = some k → w.heap.size + 2 ≤ k ∧ k ≠ B ∧ k < wr.heap.size) ∧
    Own dk 39 wr w.heap.size (.slice Aa acc.length ca) acc ∧ (∀ k, (Value.slice Aa acc.length ca).ownBlock = some k → w.heap.size + 2 ≤ k ∧ k ≠ B ∧ k < wr.heap.size)

/-- A network and packets that are delivered. -/
def RunIs (w : World) (e : Ending) (w' : World) (p : Int) (r : List S39 × List S39) : Prop :=
  ∃ A c A' c', e = .returned (.tuple #[.agg #[.int .i64 p, .slice A r.1.length c], .slice A' r.2.length c']) ∧ Own dk 39 w' w.heap.size (.slice A r.1.length c) r.1 ∧ Own dk 39 w' w.heap.size (.slice A' r.2.length c') r.2 ∧ Below w.heap.size w w'

end Go.Proofs.Ytkcijghflaoccaa.Nw
