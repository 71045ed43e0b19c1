/- The dice: what they give is small, or one of the words. -/
import Derived.Test.YtamkkpdhponhnaaPo
namespace Go.Proofs.Ytamkkpdhponhnaa.Nw
open Go.RowKit Go.Proofs.Ytamkkpdhponhnaa.Ow Go.Proofs.Ytamkkpdhponhnaa.PMailboxAll Go.Proofs.YtamkkpdhponhnaaW.PrintWords
set_option linter.unusedVariables false
set_option linter.unusedSimpArgs false

def modv (n m : Int) : Int := (n.tmod m + m).tmod m
theorem modv_bd (n m : Int) (h : 1 ≤ m) : 0 ≤ modv n m ∧ modv n m < m := by
  unfold modv
  have h1 := Int.tmod_lt_of_pos n (by omega : 0 < m)
  have h2 : -m < n.tmod m := Int.lt_tmod_of_pos n (by omega : 0 < m)
  rw [Int.tmod_eq_emod_of_nonneg (by omega)]
  exact ⟨Int.emod_nonneg _ (by omega), Int.emod_lt_of_pos _ (by omega)⟩
/-- Where the dice stand: within the list, which is short. -/
def At (l : List Int) (i : Int) : Prop := 0 ≤ i ∧ i ≤ l.length ∧ l.length ≤ 500

theorem mod_f (n m : Int) (h : 1 ≤ m) (h' : m ≤ 2000000000) : keyeventkit_Mod.f n m = some (modv n m) := by
  have h1 := Int.tmod_lt_of_pos n (by omega : 0 < m)
  have h2 : -m < n.tmod m := Int.lt_tmod_of_pos n (by omega : 0 < m)
  have h3 : wrap64 (n.tmod m + m) = n.tmod m + m := by unfold wrap64; omega
  unfold keyeventkit_Mod.f modv
  rw [if_neg (by omega), if_neg (by omega), h3]

theorem next_some (l : List Int) (i m : Int) (hi : At l i) (h : 1 ≤ m) (h' : m ≤ 2000000000) :
    ∃ r j, keyeventkit_Dice_Next.f l i m = some (r, j) ∧ 0 ≤ r ∧ r < m ∧ At l j := by
  obtain ⟨h0, h1, h2⟩ := hi
  unfold keyeventkit_Dice_Next.f
  by_cases c : i ≥ (l.length : Int)
  · rw [if_pos c]
    exact ⟨0, i, rfl, by omega, by omega, h0, h1, h2⟩
  · rw [if_neg c]
    have e1 : wrap64 (i + 1) = i + 1 := by unfold wrap64; omega
    have e2 : wrap64 (i + 1 - 1) = i := by unfold wrap64; omega
    rw [e1, e2, if_pos h0, if_pos (by omega), mod_f _ m h h']
    have b := modv_bd (rd l i) m h
    exact ⟨modv (rd l i) m, i + 1, rfl, b.1, b.2, by omega, by omega, h2⟩

theorem word_some (l : List Int) (i : Int) (ws : List ByteArray) (hi : At l i) (hw : 1 ≤ ws.length) (hw' : ws.length ≤ 1000) :
    ∃ r j, keyeventkit_Dice_Word.f l i ws = some (r, j) ∧ r ∈ ws ∧ At l j := by
  obtain ⟨k, j, e, h0, h1, h2⟩ := next_some l i ws.length hi (by omega) (by omega)
  unfold keyeventkit_Dice_Word.f
  rw [e]
  simp only [Option.bind_some]
  rw [if_pos h0, if_pos h1]
  refine ⟨_, _, rfl, ?_, h2⟩
  unfold rdOf
  rw [List.getD_eq_getElem?_getD, List.getElem?_eq_getElem (by omega)]
  exact List.getElem_mem _

/-- The dice as they lie: the block, the list, where they stand. -/
theorem light_any (A : Option Addr) (c : Nat) (l : List Int) (w : World) (hr : Kd.C (Kd.int .i64) w A l.length l) (hc : l.length ≤ c) :
    Calls Try.prog 7 #[.slice A l.length c] w fun e w' => e = .returned (.bool (decide ((l.length : Int) ≤ 500))) ∧ Below w.heap.size w w' :=
  (keyeventkit_Light.calls A c l _ w hr hc rfl).mono fun e w' ⟨he, ⟨k, hk⟩⟩ => ⟨he, by rw [hk]; exact bel_drewN (Below.refl _ _) _⟩
/-- Dice in a world: they were made behind w0. -/
def Dice (w0 w : World) (g : Nat) (l : List Int) (i : Int) : Prop := IsS52 w0 w g l i ∧ At l i ∧ Below w0.heap.size w0 w
theorem Dice.lt {w0 w : World} {g : Nat} {l : List Int} {i : Int} (h : Dice w0 w g l i) : g < w.heap.size := h.1.lt
theorem Dice.ge {w0 w : World} {g : Nat} {l : List Int} {i : Int} (h : Dice w0 w g l i) : w0.heap.size ≤ g := h.1.ge
theorem Dice.step {w0 w w1 : World} {g : Nat} {l : List Int} {i : Int} (h : Dice w0 w g l i) (hb : Below w.heap.size w w1) : Dice w0 w1 g l i := ⟨h.1.below hb, h.2.1, h.2.2.trans (hb.mono h.2.2.size)⟩
/-- All but the block g stands as it stood. -/
def But (w w' : World) (g : Nat) : Prop := w.heap.size ≤ w'.heap.size ∧ ∀ k, k < w.heap.size → k ≠ g → w'.heap[k]? = w.heap[k]?
theorem but_of {w w' : World} {g : Nat} (h : KeepBut w w' g none) : But w w' g := ⟨h.1, fun k hk hg => h.2 k hk hg (by simp)⟩
theorem But.cell {w w' : World} {g : Nat} (h : But w w' g) {b : Nat} (hb : b < w.heap.size) (hg : b ≠ g) : (∀ o, w'.cell? ⟨b, o, none⟩ = w.cell? ⟨b, o, none⟩) ∧ (∀ o, w'.frozen? ⟨b, o, none⟩ = w.frozen? ⟨b, o, none⟩) :=
  ⟨fun o => World.cell?_of_block (w := w) (h.2 b hb hg), fun o => World.frozen?_of_block (w := w) (h.2 b hb hg)⟩

theorem roll_any (A : Option Addr) (c : Nat) (l : List Int) (w : World) (hr : Kd.C (Kd.int .i64) w A l.length l) (hc : l.length ≤ c) (hl : l.length ≤ 500) :
    Calls Try.prog 9 #[.slice A l.length c] w fun e w' => ∃ g, e = .returned (.pointer (some ⟨g, 0, none⟩)) ∧ Dice w w' g l 0 ∧ Below w.heap.size w w' :=
  (keyeventkit_Roll.calls A c l l 0 w w (Below.refl _ _) hr hc rfl).mono fun e w' ⟨g, he, hI, hB, hb⟩ => ⟨g, he, ⟨hI, ⟨by omega, by omega, hl⟩, hB⟩, hb⟩

def DNextIs (w0 w : World) (g : Nat) (l : List Int) (m : Int) (e : Ending) (w' : World) : Prop := ∃ r j, e = .returned (.int .i64 r) ∧ 0 ≤ r ∧ r < m ∧ Dice w0 w' g l j ∧ But w w' g
theorem dnext_any (g : Nat) (l : List Int) (i m : Int) (w0 w : World) (h : Dice w0 w g l i) (hm : 1 ≤ m) (hm' : m ≤ 2000000000) : Calls Try.prog 10 #[.pointer (some ⟨g, 0, none⟩), .int .i64 m] w fun e w' => DNextIs w0 w g l m e w' := by
  obtain ⟨r, j, hf, h1, h2, h3⟩ := next_some l i m h.2.1 hm hm'
  exact (keyeventkit_Dice_Next.calls g l i m r j w0 w h.1 h.2.2 hf).mono fun e w' ⟨he, hI, hB, hk⟩ => ⟨r, j, he, h1, h2, ⟨hI, h3, hB⟩, but_of hk⟩
theorem modk_any (n m : Int) (w : World) (hm : 1 ≤ m) (hm' : m ≤ 2000000000) : Calls Try.prog 22 #[.int .i64 n, .int .i64 m] w fun e w' => e = .returned (.int .i64 (modv n m)) ∧ Below w.heap.size w w' :=
  (keyeventkit_Mod.calls n m _ w (mod_f n m hm hm')).mono fun e w' ⟨he, ⟨k, hk⟩⟩ => ⟨he, by rw [hk]; exact bel_drewN (Below.refl _ _) _⟩
def WordIs (w0 w : World) (g : Nat) (l : List Int) (ws : List ByteArray) (e : Ending) (w' : World) : Prop := ∃ r j, e = .returned (.string r) ∧ r ∈ ws ∧ Dice w0 w' g l j ∧ But w w' g
/-- A word of a list that lies in a block of its own. -/
theorem word_any (g : Nat) (l : List Int) (i : Int) (w0 w : World) (h : Dice w0 w g l i) (b : Nat) (ws : List ByteArray) (hw : 1 ≤ ws.length) (hw' : ws.length ≤ 1000) (hb : b < w.heap.size) (hbg : b ≠ g) (hc : ∀ j s, ws[j]? = some s → w.cell? ⟨b, j, none⟩ = some (.string s)) :
    Calls Try.prog 11 #[.pointer (some ⟨g, 0, none⟩), .slice (some ⟨b, 0, none⟩) ws.length ws.length] w fun e w' => WordIs w0 w g l ws e w' := by
  obtain ⟨r, j, hf, h1, h2⟩ := word_some l i ws h.2.1 hw hw'
  have hC : Kd.C Kd.string w (some ⟨b, 0, none⟩) ws.length ws := by
    refine ⟨rfl, by omega, fun h0 => ⟨⟨b, 0, none⟩, rfl, fun k p hk => ⟨[.string p], rfl, rfl, fun i u hu => ?_⟩⟩⟩
    match i, hu with
    | 0, hu =>
      simp at hu; subst hu
      rw [Addr.add_lit]
      show w.cell? ⟨b, 0 + (k * 1 + 0), none⟩ = _
      rw [show 0 + (k * 1 + 0) = k by omega]
      exact hc k p hk
  exact (keyeventkit_Dice_Word.calls g l i (some ⟨b, 0, none⟩) ws.length ws r j w0 w h.1 h.2.2 hC (Nat.le_refl _) (fun ad had _ => by cases had; exact hbg) hf).mono fun e w' ⟨he, hI, hB, hk⟩ => ⟨r, j, he, h1, ⟨hI, h2, hB⟩, but_of hk⟩
end Go.Proofs.Ytamkkpdhponhnaa.Nw
