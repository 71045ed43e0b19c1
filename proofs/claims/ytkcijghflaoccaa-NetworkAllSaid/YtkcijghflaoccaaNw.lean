/- The dice: what they give is small. -/
import Derived.Test.YtkcijghflaoccaaNu
namespace Go.Proofs.Ytkcijghflaoccaa.Nw
open Go.RowKit Go.Proofs.Ytkcijghflaoccaa.Ow Go.Proofs.Ytkcijghflaoccaa.PNetworkAll Go.Proofs.YtkcijghflaoccaaW.PrintWords
set_option linter.unusedVariables false
set_option linter.unusedSimpArgs false

/-- Where the dice stand: within the list, which is short. -/
def At (l : List Int) (i : Int) : Prop := 0 ≤ i ∧ i ≤ l.length ∧ l.length ≤ 500

theorem mod_f (n m : Int) (h : 1 ≤ m) (h' : m ≤ 2000000000) : keyeventkit_Mod.f n m = some (modv n m) := by
  have h1 := Int.tmod_lt_of_pos n (by omega : 0 < m)
  have h2 : -m < n.tmod m := Int.lt_tmod_of_pos n (by omega : 0 < m)
  have h3 : wrap64 (n.tmod m + m) = n.tmod m + m := by unfold wrap64; omega
  unfold keyeventkit_Mod.f modv
  rw [if_neg (by omega), if_neg (by omega), h3]

theorem next_some (l : List Int) (i m : Int) (hi : At l i) (h : 1 ≤ m) (h' : m ≤ 2000000000) :
    ∃ r j, keyeventkit_Dice_Next.f l i m = some (r, j) ∧ 0 ≤ r ∧ r < m ∧ At l j := by
  obtain ⟨h0, h1, h2⟩ := hi
  unfold keyeventkit_Dice_Next.f
  by_cases c : i ≥ (l.length : Int)
  · rw [if_pos c]
    exact ⟨0, i, rfl, by omega, by omega, h0, h1, h2⟩
  · rw [if_neg c]
    have e1 : wrap64 (i + 1) = i + 1 := by unfold wrap64; omega
    have e2 : wrap64 (i + 1 - 1) = i := by unfold wrap64; omega
    rw [e1, e2, if_pos h0, if_pos (by omega), mod_f _ m h h']
    have b := modv_bd (rd l i) m h
    exact ⟨modv (rd l i) m, i + 1, rfl, b.1, b.2, by omega, by omega, h2⟩

theorem word_some (l : List Int) (i : Int) (ws : List ByteArray) (hi : At l i) (hw : 1 ≤ ws.length) (hw' : ws.length ≤ 1000) :
    ∃ r j, keyeventkit_Dice_Word.f l i ws = some (r, j) ∧ r ∈ ws ∧ At l j := by
  obtain ⟨k, j, e, h0, h1, h2⟩ := next_some l i ws.length hi (by omega) (by omega)
  unfold keyeventkit_Dice_Word.f
  rw [e]
  simp only [Option.bind_some]
  rw [if_pos h0, if_pos h1]
  refine ⟨_, _, rfl, ?_, h2⟩
  unfold rdOf
  rw [List.getD_eq_getElem?_getD, List.getElem?_eq_getElem (by omega)]
  exact List.getElem_mem _

/-- Packets between the parties, with short bodies. -/
def Fit (p : Int) (xs : List S39) : Prop := ∀ x ∈ xs, 0 ≤ x.f0 ∧ x.f0 < p ∧ 0 ≤ x.f1 ∧ x.f1 < p ∧ x.f2.size ≤ 13
theorem Fit.short {p : Int} {xs : List S39} (h : Fit p xs) : Short xs := fun x hx => by have := (h x hx).2.2.2.2; omega

theorem packets_loop (l : List Int) (p : Int) (hp : 1 ≤ p) (hp' : p ≤ 3) : ∀ (d k : Nat) (n i : Int) (xs : List S39), n = d → n ≤ 100 → d < k → At l i → xs.length + d ≤ 100 → Fit p xs →
    ∃ ys j, keyeventplay_Packets.l0 k n l i p xs = some (p, ys, j) ∧ ys.length = xs.length + d ∧ Fit p ys ∧ At l j := by
  intro d
  induction d with
  | zero =>
    intro k n i xs hn hn' hk hi hl hf
    obtain ⟨k, rfl⟩ : ∃ m, k = m + 1 := ⟨k - 1, by omega⟩
    exact ⟨xs, i, by simp only [keyeventplay_Packets.l0]; rw [if_neg (by omega)], by omega, hf, hi⟩
  | succ d ih =>
    intro k n i xs hn hn' hk hi hl hf
    obtain ⟨k, rfl⟩ : ∃ m, k = m + 1 := ⟨k - 1, by omega⟩
    obtain ⟨a, i1, e1, a0, a1, hi1⟩ := next_some l i p hi hp (by omega)
    obtain ⟨b, i2, e2, b0, b1, hi2⟩ := next_some l i1 p hi1 hp (by omega)
    obtain ⟨s, i3, e3, hs, hi3⟩ := word_some l i2 ([(⟨#[]⟩ : ByteArray), (⟨#[97]⟩ : ByteArray), (⟨#[98, 114, 105, 100, 103, 101]⟩ : ByteArray), (⟨#[109, 105, 108, 108, 32, 97, 110, 100, 32, 102, 111, 114, 100]⟩ : ByteArray)] : List ByteArray) hi2 (by simp) (by simp)
    have hsz : s.size ≤ 13 := by
      simp only [List.mem_cons, List.not_mem_nil, or_false] at hs
      rcases hs with rfl | rfl | rfl | rfl <;> decide
    have hw : wrap64 (n - 1) = n - 1 := by unfold wrap64; omega
    obtain ⟨ys, j, h1, h2, h3, h4⟩ := ih k (n - 1) i3 (xs ++ [⟨a, b, s⟩]) (by omega) (by omega) (by omega) hi3 (by simp; omega) (fun x hx => by
      rcases List.mem_append.1 hx with hx | hx
      · exact hf x hx
      · simp at hx; subst hx; exact ⟨a0, a1, b0, b1, hsz⟩)
    refine ⟨ys, j, ?_, by rw [h2]; simp; omega, h3, h4⟩
    simp only [keyeventplay_Packets.l0]
    rw [if_pos (by omega), e1]; simp only [Option.bind_some]
    rw [e2]; simp only [Option.bind_some]
    rw [e3]; simp only [Option.bind_some]
    rw [if_pos (by omega), hw]
    exact h1

theorem packets_some (l : List Int) (i : Int) (hi : At l i) :
    ∃ p xs j, keyeventplay_Packets.f 200 l i = some (p, xs, j) ∧ 1 ≤ p ∧ p ≤ 3 ∧ xs.length ≤ 5 ∧ Fit p xs ∧ At l j := by
  obtain ⟨a, i1, e1, a0, a1, hi1⟩ := next_some l i 3 hi (by omega) (by omega)
  obtain ⟨b, i2, e2, b0, b1, hi2⟩ := next_some l i1 6 hi1 (by omega) (by omega)
  have hw : wrap64 (1 + a) = 1 + a := by unfold wrap64; omega
  obtain ⟨n, rfl⟩ := Int.eq_ofNat_of_zero_le b0
  obtain ⟨ys, j, h1, h2, h3, h4⟩ := packets_loop l (1 + a) (by omega) (by omega) n 200 n i2 [] rfl (by omega) (by omega) hi2 (by simp; omega) (fun x hx => by simp at hx)
  refine ⟨1 + a, ys, j, ?_, by omega, by omega, by simp at h2; omega, h3, h4⟩
  unfold keyeventplay_Packets.f
  rw [e1]; simp only [Option.bind_some]
  rw [e2]; simp only [Option.bind_some]
  rw [hw]
  exact h1

/-- Happenings of the five kinds. -/
def Kinds (hs : List S34) : Prop := ∀ h ∈ hs, 1 ≤ h.f0 ∧ h.f0 ≤ 5
theorem happen_loop (l : List Int) : ∀ (d k : Nat) (n i : Int) (hs : List S34), n = d → n ≤ 100 → d < k → At l i → hs.length + d ≤ 100 → Kinds hs →
    ∃ ys j, keyeventplay_Happenings.l0 k hs n l i = some (ys, j) ∧ ys.length = hs.length + d ∧ Kinds ys ∧ At l j := by
  intro d
  induction d with
  | zero =>
    intro k n i xs hn hn' hk hi hl hf
    obtain ⟨k, rfl⟩ : ∃ m, k = m + 1 := ⟨k - 1, by omega⟩
    exact ⟨xs, i, by simp only [keyeventplay_Happenings.l0]; rw [if_neg (by omega)], by omega, hf, hi⟩
  | succ d ih =>
    intro k n i xs hn hn' hk hi hl hf
    obtain ⟨k, rfl⟩ : ∃ m, k = m + 1 := ⟨k - 1, by omega⟩
    obtain ⟨a, i1, e1, a0, a1, hi1⟩ := next_some l i 5 hi (by omega) (by omega)
    obtain ⟨b, i2, e2, b0, b1, hi2⟩ := next_some l i1 7 hi1 (by omega) (by omega)
    obtain ⟨c, i3, e3, c0, c1, hi3⟩ := next_some l i2 9 hi2 (by omega) (by omega)
    obtain ⟨v, i4, e4, v0, v1, hi4⟩ := next_some l i3 300 hi3 (by omega) (by omega)
    have hw : wrap64 (n - 1) = n - 1 := by unfold wrap64; omega
    have hw1 : wrap64 (1 + a) = 1 + a := by unfold wrap64; omega
    obtain ⟨ys, j, h1, h2, h3, h4⟩ := ih k (n - 1) i4 (xs ++ [⟨1 + a, wrap64 (b - 1), c, v⟩]) (by omega) (by omega) (by omega) hi4 (by simp; omega) (fun x hx => by
      rcases List.mem_append.1 hx with hx | hx
      · exact hf x hx
      · simp at hx; subst hx; exact ⟨by show 1 ≤ 1 + a; omega, by show 1 + a ≤ 5; omega⟩)
    refine ⟨ys, j, ?_, by rw [h2]; simp; omega, h3, h4⟩
    simp only [keyeventplay_Happenings.l0]
    rw [if_pos (by omega), e1]; simp only [Option.bind_some]
    rw [e2]; simp only [Option.bind_some]
    rw [e3]; simp only [Option.bind_some]
    rw [e4]; simp only [Option.bind_some]
    rw [if_pos (by omega), hw, hw1]
    exact h1
theorem happen_some (l : List Int) (i : Int) (hi : At l i) :
    ∃ hs j, keyeventplay_Happenings.f 200 l i 8 = some (hs, j) ∧ hs.length ≤ 8 ∧ Kinds hs ∧ At l j := by
  obtain ⟨b, i2, e2, b0, b1, hi2⟩ := next_some l i 9 hi (by omega) (by omega)
  obtain ⟨n, rfl⟩ := Int.eq_ofNat_of_zero_le b0
  obtain ⟨ys, j, h1, h2, h3, h4⟩ := happen_loop l n 200 n i2 [] rfl (by omega) (by omega) hi2 (by simp; omega) (fun x hx => by simp at hx)
  refine ⟨ys, j, ?_, by simp at h2; omega, h3, h4⟩
  unfold keyeventplay_Happenings.f
  rw [show wrap64 (8 + 1) = 9 from by unfold wrap64; omega, e2]; simp only [Option.bind_some]
  exact h1

/-- The dice as they lie: the block, the list, where they stand. -/
theorem light_any (A : Option Addr) (c : Nat) (l : List Int) (w : World) (hr : Kd.C (Kd.int .i64) w A l.length l) (hc : l.length ≤ c) :
    Calls Try.prog 7 #[.slice A l.length c] w fun e w' => e = .returned (.bool (decide ((l.length : Int) ≤ 500))) ∧ Below w.heap.size w w' :=
  (keyeventkit_Light.calls A c l _ w hr hc rfl).mono fun e w' ⟨he, ⟨k, hk⟩⟩ => ⟨he, by rw [hk]; exact bel_drewN (Below.refl _ _) _⟩
/-- Dice in a world: they were made behind w0. -/
def Dice (w0 w : World) (g : Nat) (l : List Int) (i : Int) : Prop := IsS54 w0 w g l i ∧ At l i ∧ Below w0.heap.size w0 w
theorem Dice.lt {w0 w : World} {g : Nat} {l : List Int} {i : Int} (h : Dice w0 w g l i) : g < w.heap.size := h.1.lt
theorem Dice.ge {w0 w : World} {g : Nat} {l : List Int} {i : Int} (h : Dice w0 w g l i) : w0.heap.size ≤ g := h.1.ge
theorem Dice.step {w0 w w1 : World} {g : Nat} {l : List Int} {i : Int} (h : Dice w0 w g l i) (hb : Below w.heap.size w w1) : Dice w0 w1 g l i := ⟨h.1.below hb, h.2.1, h.2.2.trans (hb.mono h.2.2.size)⟩
/-- All but the block g stands as it stood. -/
def But (w w' : World) (g : Nat) : Prop := w.heap.size ≤ w'.heap.size ∧ ∀ k, k < w.heap.size → k ≠ g → w'.heap[k]? = w.heap[k]?
theorem but_of {w w' : World} {g : Nat} (h : KeepBut w w' g none) : But w w' g := ⟨h.1, fun k hk hg => h.2 k hk hg (by simp)⟩
theorem But.cell {w w' : World} {g : Nat} (h : But w w' g) {b : Nat} (hb : b < w.heap.size) (hg : b ≠ g) : (∀ o, w'.cell? ⟨b, o, none⟩ = w.cell? ⟨b, o, none⟩) ∧ (∀ o, w'.frozen? ⟨b, o, none⟩ = w.frozen? ⟨b, o, none⟩) :=
  ⟨fun o => World.cell?_of_block (w := w) (h.2 b hb hg), fun o => World.frozen?_of_block (w := w) (h.2 b hb hg)⟩

theorem roll_any (A : Option Addr) (c : Nat) (l : List Int) (w : World) (hr : Kd.C (Kd.int .i64) w A l.length l) (hc : l.length ≤ c) (hl : l.length ≤ 500) :
    Calls Try.prog 9 #[.slice A l.length c] w fun e w' => ∃ g, e = .returned (.pointer (some ⟨g, 0, none⟩)) ∧ Dice w w' g l 0 ∧ Below w.heap.size w w' :=
  (keyeventkit_Roll.calls A c l l 0 w w (Below.refl _ _) hr hc rfl).mono fun e w' ⟨g, he, hI, hB, hb⟩ => ⟨g, he, ⟨hI, ⟨by omega, by omega, hl⟩, hB⟩, hb⟩

def PacketsIs (w0 w : World) (g : Nat) (l : List Int) (e : Ending) (w' : World) : Prop :=
  ∃ p A c xs j, e = .returned (.agg #[.int .i64 p, .slice A (xs : List S39).length c]) ∧ Own dk 39 w' w.heap.size (.slice A xs.length c) xs ∧ Dice w0 w' g l j ∧ But w w' g ∧ 1 ≤ p ∧ p ≤ 3 ∧ xs.length ≤ 5 ∧ Fit p xs
theorem packets_any (g : Nat) (l : List Int) (i : Int) (w0 w : World) (h : Dice w0 w g l i) : Calls Try.prog 10 #[.pointer (some ⟨g, 0, none⟩)] w fun e w' => PacketsIs w0 w g l e w' := by
  obtain ⟨p, xs, j, hf, h1, h2, h3, h4, h5⟩ := packets_some l i h.2.1
  refine (keyeventplay_Packets.calls 200 g l i p xs j w0 w h.1 h.2.2 hf).mono fun e w' ⟨v, he, hr, hI, hB, hk⟩ => ?_
  have ho := own_of_R hr
  obtain ⟨A, c, rfl⟩ := ho.rd.form
  exact ⟨p, A, c, xs, j, he, ho, ⟨hI, h5, hB⟩, but_of hk, h1, h2, h3, h4⟩

def HappenIs (w0 w : World) (g : Nat) (l : List Int) (e : Ending) (w' : World) : Prop :=
  ∃ A c hs j, e = .returned (.slice A (hs : List S34).length c) ∧ Own dh 34 w' w.heap.size (.slice A hs.length c) hs ∧ Dice w0 w' g l j ∧ But w w' g ∧ hs.length ≤ 8 ∧ Kinds hs
theorem happen_any (g : Nat) (l : List Int) (i : Int) (w0 w : World) (h : Dice w0 w g l i) : Calls Try.prog 11 #[.pointer (some ⟨g, 0, none⟩), .int .i64 8] w fun e w' => HappenIs w0 w g l e w' := by
  obtain ⟨hs, j, hf, h1, h2, h3⟩ := happen_some l i h.2.1
  refine (keyeventplay_Happenings.calls 200 g l i 8 hs j w0 w h.1 h.2.2 hf).mono fun e w' ⟨v, he, hr, hI, hB, hk⟩ => ?_
  have ho := own_of_R34 hr
  obtain ⟨A, c, rfl⟩ := ho.rd.form
  exact ⟨A, c, hs, j, he, ho, ⟨hI, h3, hB⟩, but_of hk, h1, h2⟩

def NextIs (w0 w : World) (g : Nat) (l : List Int) (m : Int) (e : Ending) (w' : World) : Prop := ∃ r j, e = .returned (.int .i64 r) ∧ 0 ≤ r ∧ r < m ∧ Dice w0 w' g l j ∧ But w w' g
theorem next_any (g : Nat) (l : List Int) (i m : Int) (w0 w : World) (h : Dice w0 w g l i) (hm : 1 ≤ m) (hm' : m ≤ 2000000000) : Calls Try.prog 13 #[.pointer (some ⟨g, 0, none⟩), .int .i64 m] w fun e w' => NextIs w0 w g l m e w' := by
  obtain ⟨r, j, hf, h1, h2, h3⟩ := next_some l i m h.2.1 hm hm'
  exact (keyeventkit_Dice_Next.calls g l i m r j w0 w h.1 h.2.2 hf).mono fun e w' ⟨he, hI, hB, hk⟩ => ⟨r, j, he, h1, h2, ⟨hI, h3, hB⟩, but_of hk⟩
theorem modk_any (n m : Int) (w : World) (hm : 1 ≤ m) (hm' : m ≤ 2000000000) : Calls Try.prog 24 #[.int .i64 n, .int .i64 m] w fun e w' => e = .returned (.int .i64 (modv n m)) ∧ Below w.heap.size w w' :=
  (keyeventkit_Mod.calls n m _ w (mod_f n m hm hm')).mono fun e w' ⟨he, ⟨k, hk⟩⟩ => ⟨he, by rw [hk]; exact bel_drewN (Below.refl _ _) _⟩
end Go.Proofs.Ytkcijghflaoccaa.Nw
