/- A mailbox that is filled. -/
import Derived.Test.YtamkkpdhponhnaaPt
import Derived.Test.YtamkkpdhponhnaaPu
import Derived.Test.YtamkkpdhponhnaaPs
import Derived.Test.YtamkkpdhponhnaaPk
import Derived.LoopTactic
import Derived.Outline
import Derived.Deep.RegionLaw
namespace Go.Proofs.Ytamkkpdhponhnaa.Nw
open Go.RowKit Go.Proofs.Ytamkkpdhponhnaa.Ow Go.Proofs.Ytamkkpdhponhnaa.PMailboxAll Go.Proofs.YtamkkpdhponhnaaW.PrintWords
set_option linter.unusedVariables false
set_option linter.unusedSimpArgs false

theorem But.refl (w : World) (g : Nat) : But w w g := ⟨Nat.le_refl _, fun _ _ _ => rfl⟩
theorem But.trans {w w1 w2 : World} {g : Nat} (h : But w w1 g) (k : But w1 w2 g) : But w w2 g := ⟨Nat.le_trans h.1 k.1, fun b hb hg => (k.2 b (Nat.lt_of_lt_of_le hb h.1) hg).trans (h.2 b hb hg)⟩
theorem But.bel {w w1 w2 : World} {g : Nat} (h : But w w1 g) (k : Below w1.heap.size w1 w2) : But w w2 g := ⟨Nat.le_trans h.1 k.size, fun b hb hg => (k.block b (Nat.lt_of_lt_of_le hb h.1)).trans (h.2 b hb hg)⟩
theorem But.alloc {w w1 : World} {g : Nat} (h : But w w1 g) (o : Obj) : But w (w1.alloc o) g := h.bel ((Below.refl _ _).alloc (Nat.le_refl _) _)
theorem But.drew {w w1 : World} {g : Nat} (h : But w w1 g) : But w w1.drew g := h
theorem But.set {w w1 : World} {g : Nat} (h : But w w1 g) {p : Addr} (hp : w.heap.size ≤ p.block) (u : Value) : But w (w1.setCell p u) g :=
  ⟨by have := h.1; simp [World.setCell]; exact this, fun b hb hg => (Below.heap_setCell _ _ _ _ (by omega)).trans (h.2 b hb hg)⟩
theorem own_but {α : Type} {d : En α} {e : TypeId} {w w' : World} {B g : Nat} {v : Value} {xs : List α} (h : Own d e w B v xs) (hb : But w w' g) (hg : g < B) : Own d e w' B v xs :=
  h.moved (fun k hk => by have := h.block k hk; exact hb.2 k this.2 (by omega))
theorem Dice.set {w0 w : World} {g : Nat} {l : List Int} {i : Int} (h : Dice w0 w g l i) {p : Addr} (hp : g ≠ p.block) (hp2 : w0.heap.size ≤ p.block) (u : Value) : Dice w0 (w.setCell p u) g l i :=
  ⟨h.1.far hp u, h.2.1, bel_set h.2.2 hp2 u⟩
theorem word3_any (g : Nat) (l : List Int) (i : Int) (w0 w : World) (h : Dice w0 w g l i) (b : Nat) (s0 s1 s2 : ByteArray) (hb : b < w.heap.size) (hbg : b ≠ g) (h0 : w.cell? ⟨b, 0, none⟩ = some (.string s0)) (h1 : w.cell? ⟨b, 1, none⟩ = some (.string s1)) (h2 : w.cell? ⟨b, 2, none⟩ = some (.string s2)) :
    Calls Try.prog 11 #[.pointer (some ⟨g, 0, none⟩), .slice (some ⟨b, 0, none⟩) 3 3] w fun e w' => ∃ r j, e = .returned (.string r) ∧ (r = s0 ∨ r = s1 ∨ r = s2) ∧ Dice w0 w' g l j ∧ But w w' g := by
  refine (word_any g l i w0 w h b [s0, s1, s2] (by simp) (by simp) hb hbg (fun j s hj => ?_)).mono ?_
  · match j, hj with
    | 0, hj => simp at hj; subst hj; exact h0
    | 1, hj => simp at hj; subst hj; exact h1
    | 2, hj => simp at hj; subst hj; exact h2
    | j + 3, hj => simp at hj
  · rintro e w' ⟨r, j, he, hr, hd, hbt⟩
    exact ⟨r, j, he, by simpa using hr, hd, hbt⟩
theorem word2_any (g : Nat) (l : List Int) (i : Int) (w0 w : World) (h : Dice w0 w g l i) (b : Nat) (s0 s1 : ByteArray) (hb : b < w.heap.size) (hbg : b ≠ g) (h0 : w.cell? ⟨b, 0, none⟩ = some (.string s0)) (h1 : w.cell? ⟨b, 1, none⟩ = some (.string s1)) :
    Calls Try.prog 11 #[.pointer (some ⟨g, 0, none⟩), .slice (some ⟨b, 0, none⟩) 2 2] w fun e w' => ∃ r j, e = .returned (.string r) ∧ (r = s0 ∨ r = s1) ∧ Dice w0 w' g l j ∧ But w w' g := by
  refine (word_any g l i w0 w h b [s0, s1] (by simp) (by simp) hb hbg (fun j s hj => ?_)).mono ?_
  · match j, hj with
    | 0, hj => simp at hj; subst hj; exact h0
    | 1, hj => simp at hj; subst hj; exact h1
    | j + 2, hj => simp at hj
  · rintro e w' ⟨r, j, he, hr, hd, hbt⟩
    exact ⟨r, j, he, by simpa using hr, hd, hbt⟩
theorem Inv.round' {c : Nat} {ts : List S56} {ls : List S41} (h : Inv c ts ls) (hc : c ≤ 15) {p b : ByteArray} (hp : p = ⟨#[109, 105, 108, 108]⟩ ∨ p = ⟨#[102, 111, 114, 100]⟩ ∨ p = ⟨#[98, 114, 105, 100, 103, 101]⟩) (hb : b = ⟨#[97]⟩ ∨ b = ⟨#[98]⟩ ∨ b = ⟨#[]⟩) :
    ∃ ts' ls' n, putR ts ls p b = (ts', ls', n, 0) ∧ Inv (c + 1) ts' ls' := by
  obtain ⟨ts', n, h1, h2⟩ := h.round hc p b (by rcases hp with rfl | rfl | rfl; exact name_mill; exact name_ford; exact name_bridge) (by rcases hb with rfl | rfl | rfl <;> decide)
  exact ⟨ts', _, n, h1, h2⟩
theorem wp_seqK {P : Program} {s : Code} {Q' : Exit → Act → World → Prop} {a : Act} {w : World} (h : ∀ K : Act → World → Prop, (∀ a w, Q' .normal a w → K a w) → s.wp P (Exit.then K Q') a w) : s.wp P Q' a w := by
  refine wp_mono (h (fun a w => Q' .normal a w) (fun _ _ q => q)) ?_
  intro e a w hq
  cases e <;> exact hq
/-- The mailbox in its box, in the course of the filling. -/
structure St (w0 w : World) (g : Nat) (l : List Int) (A : Option Addr) (cA : Nat) (ts : List S56) (A' : Option Addr) (cA' : Nat) (ls : List S41) (wx : World) : Prop where
  dc : ∃ j, Dice w0 wx g l j
  bt : But w wx g
  sz : w.heap.size + 1 < wx.heap.size
  a0 : wx.cell? ⟨w.heap.size, 0, none⟩ = some (.slice none 0 0)
  a1 : wx.cell? ⟨w.heap.size, 1, none⟩ = some (.slice none 0 0)
  fa0 : wx.frozen? ⟨w.heap.size, 0, none⟩ = false
  fa1 : wx.frozen? ⟨w.heap.size, 1, none⟩ = false
  c0 : wx.cell? ⟨w.heap.size + 1, 0, none⟩ = some (.slice A ts.length cA)
  c1 : wx.cell? ⟨w.heap.size + 1, 1, none⟩ = some (.slice A' ls.length cA')
  fc0 : wx.frozen? ⟨w.heap.size + 1, 0, none⟩ = false
  fc1 : wx.frozen? ⟨w.heap.size + 1, 1, none⟩ = false
  ot : Own dt 56 wx (w.heap.size + 2) (.slice A ts.length cA) ts
  ol : Own dl 41 wx (w.heap.size + 2) (.slice A' ls.length cA') ls
  ne : ∀ k k', (Value.slice A ts.length cA).ownBlock = some k → (Value.slice A' ls.length cA').ownBlock = some k' → k ≠ k'
section
variable {w0 w : World} {g : Nat} {l : List Int} {A : Option Addr} {cA : Nat} {ts : List S56} {A' : Option Addr} {cA' : Nat} {ls : List S41} {wx w2 : World}
theorem St.bel (h : St w0 w g l A cA ts A' cA' ls wx) (hb : Below wx.heap.size wx w2) : St w0 w g l A cA ts A' cA' ls w2 := by
  obtain ⟨⟨j, hd⟩, h2, h3, h4, h5, h6, h7, h8, h9, h10, h11, h12, h13, h14⟩ := h
  obtain ⟨hc, hf⟩ := bcell hb
  have := hb.size
  have q : w.heap.size < wx.heap.size := by omega
  exact ⟨⟨j, hd.step hb⟩, h2.bel hb, by omega, (hc _ _ q).trans h4, (hc _ _ q).trans h5, (hf _ _ q).trans h6, (hf _ _ q).trans h7, (hc _ _ h3).trans h8, (hc _ _ h3).trans h9, (hf _ _ h3).trans h10, (hf _ _ h3).trans h11, h12.below hb, h13.below hb, h14⟩
theorem St.but {j : Int} (h : St w0 w g l A cA ts A' cA' ls wx) (hg : g < w.heap.size) (hd : Dice w0 w2 g l j) (hb : But wx w2 g) : St w0 w g l A cA ts A' cA' ls w2 := by
  obtain ⟨_, h2, h3, h4, h5, h6, h7, h8, h9, h10, h11, h12, h13, h14⟩ := h
  have := hb.1
  obtain ⟨hc, hf⟩ := hb.cell (b := w.heap.size) (by omega) (by omega)
  obtain ⟨hc1, hf1⟩ := hb.cell (b := w.heap.size + 1) h3 (by omega)
  exact ⟨⟨j, hd⟩, h2.trans hb, by omega, (hc _).trans h4, (hc _).trans h5, (hf _).trans h6, (hf _).trans h7, (hc1 _).trans h8, (hc1 _).trans h9, (hf1 _).trans h10, (hf1 _).trans h11, own_but h12 hb (by omega), own_but h13 hb (by omega), h14⟩
theorem St.fill (h : St w0 w g l A cA ts A' cA' ls wx) (hg : g < w.heap.size) (hgw : w0.heap.size ≤ w.heap.size) (hb : Below wx.heap.size wx w2) {A6 : Option Addr} {c6 : Nat} {ts' : List S56} {B6 : Option Addr} {d6 : Nat} {ls' : List S41}
    (h1 : Own dt 56 w2 wx.heap.size (.slice A6 ts'.length c6) ts') (h2 : Own dl 41 w2 wx.heap.size (.slice B6 ls'.length d6) ls') (hne : ∀ k k', (Value.slice A6 ts'.length c6).ownBlock = some k → (Value.slice B6 ls'.length d6).ownBlock = some k' → k ≠ k') :
    St w0 w g l A6 c6 ts' B6 d6 ls' ((w2.setCell ⟨w.heap.size + 1, 0, none⟩ (.slice A6 ts'.length c6)).setCell ⟨w.heap.size + 1, 1, none⟩ (.slice B6 ls'.length d6)) := by
  have hs := h.sz
  obtain ⟨⟨j, hd⟩, k2, k3, k4, k5, k6, k7, k8, k9, k10, k11, k12, k13, k14⟩ := h.bel hb
  have q1 : w.heap.size < w2.heap.size := by omega
  refine ⟨⟨j, (hd.set (by simp; omega) (by simp; omega) _).set (by simp; omega) (by simp; omega) _⟩, (k2.set (by simp) _).set (by simp) _, by simp; omega, by go_simp, by go_simp, by go_simp, by go_simp, by go_simp, by go_simp, by go_simp, by go_simp, ?_, ?_, hne⟩
  · exact ((h1.setCell (fun k hk => by have := h1.block k hk; simp; omega) _).setCell (fun k hk => by have := h1.block k hk; simp; omega) _).lower (by omega)
  · exact ((h2.setCell (fun k hk => by have := h2.block k hk; simp; omega) _).setCell (fun k hk => by have := h2.block k hk; simp; omega) _).lower (by omega)
theorem word3_st (h : St w0 w g l A cA ts A' cA' ls wx) (hg : g < w.heap.size) (b : Nat) (s0 s1 s2 : ByteArray) (hb : b < wx.heap.size) (hbg : b ≠ g) (h0 : wx.cell? ⟨b, 0, none⟩ = some (.string s0)) (h1 : wx.cell? ⟨b, 1, none⟩ = some (.string s1)) (h2 : wx.cell? ⟨b, 2, none⟩ = some (.string s2)) :
    Calls Try.prog 11 #[.pointer (some ⟨g, 0, none⟩), .slice (some ⟨b, 0, none⟩) 3 3] wx fun e w' => ∃ r, e = .returned (.string r) ∧ (r = s0 ∨ r = s1 ∨ r = s2) ∧ St w0 w g l A cA ts A' cA' ls w' ∧ But wx w' g := by
  obtain ⟨j, hd⟩ := h.dc
  refine (word3_any g l j w0 wx hd b s0 s1 s2 hb hbg h0 h1 h2).mono ?_
  rintro e w' ⟨r, j', he, hr, hd', hb'⟩
  exact ⟨r, he, hr, h.but hg hd' hb', hb'⟩
theorem word2_st (h : St w0 w g l A cA ts A' cA' ls wx) (hg : g < w.heap.size) (b : Nat) (s0 s1 : ByteArray) (hb : b < wx.heap.size) (hbg : b ≠ g) (h0 : wx.cell? ⟨b, 0, none⟩ = some (.string s0)) (h1 : wx.cell? ⟨b, 1, none⟩ = some (.string s1)) :
    Calls Try.prog 11 #[.pointer (some ⟨g, 0, none⟩), .slice (some ⟨b, 0, none⟩) 2 2] wx fun e w' => ∃ r, e = .returned (.string r) ∧ (r = s0 ∨ r = s1) ∧ St w0 w g l A cA ts A' cA' ls w' ∧ But wx w' g := by
  obtain ⟨j, hd⟩ := h.dc
  refine (word2_any g l j w0 wx hd b s0 s1 hb hbg h0 h1).mono ?_
  rintro e w' ⟨r, j', he, hr, hd', hb'⟩
  exact ⟨r, he, hr, h.but hg hd' hb', hb'⟩
theorem next_st (h : St w0 w g l A cA ts A' cA' ls wx) (hg : g < w.heap.size) (m : Int) (hm : 1 ≤ m) (hm' : m ≤ 1000) :
    Calls Try.prog 10 #[.pointer (some ⟨g, 0, none⟩), .int .i64 m] wx fun e w' => ∃ r, e = .returned (.int .i64 r) ∧ St w0 w g l A cA ts A' cA' ls w' ∧ But wx w' g := by
  obtain ⟨j, hd⟩ := h.dc
  refine (dnext_any g l j m w0 wx hd hm (by omega)).mono ?_
  rintro e w' ⟨r, j', he, _, _, hd', hb'⟩
  exact ⟨r, he, h.but hg hd' hb', hb'⟩
end
def FillI (w0 w : World) (g : Nat) (l : List Int) (c : Nat) (wr : World) : Prop := ∃ A cA ts A' cA' ls, Inv c ts ls ∧ St w0 w g l A cA ts A' cA' ls wr
def FilledIs (w0 w : World) (g : Nat) (l : List Int) (e : Ending) (w' : World) : Prop :=
  ∃ ts ls A c A' c' j, e = .returned (.agg #[.slice A (ts : List S56).length c, .slice A' (ls : List S41).length c']) ∧ Inv 8 ts ls ∧ Own dt 56 w' w.heap.size (.slice A ts.length c) ts ∧ Own dl 41 w' w.heap.size (.slice A' ls.length c') ls ∧
    (∀ k k', (Value.slice A ts.length c).ownBlock = some k → (Value.slice A' ls.length c').ownBlock = some k' → k ≠ k') ∧ Dice w0 w' g l j ∧ But w w' g
theorem Inv.more {c d : Nat} {ts : List S56} {ls : List S41} (h : Inv c ts ls) (hd : c ≤ d) : Inv d ts ls :=
  ⟨by have := h.tl; omega, by have := h.ll; omega, fun q => by have := h.nx q; omega, h.le, h.up⟩
set_option maxRecDepth 100000 in
set_option maxHeartbeats 16000000 in
theorem filled_any (g : Nat) (l : List Int) (i : Int) (w0 w : World) (h : Dice w0 w g l i) : Calls Try.prog 16 #[.pointer (some ⟨g, 0, none⟩)] w fun e w' => FilledIs w0 w g l e w' := by
  have hg := h.lt
  have hgw0 := h.2.2.size
  have HD0 := Lib.hid h
  clear h
  go_enter Try.func16, Try.ntmps16
  go_wp2_with fail
  refine (dnext_any g l i 8 w0 _ (HD0.out.step (by repeat (first | exact Below.refl _ _ | with_reducible apply bel_drew | with_reducible apply bel_drewN | with_reducible apply bel_alloc | (with_reducible refine bel_set ?_ (by first | omega | (simp <;> omega)) _) | (with_reducible refine bel_step ?_ (by assumption)) | (with_reducible refine bel_step ?_ (grown_none (by assumption)))))) (by omega) (by omega)).mono ?_
  rintro e w1 ⟨r, j, rfl, hr0, hr1, hd1, hb1⟩
  obtain ⟨n, rfl⟩ := Int.eq_ofNat_of_zero_le hr0
  have hz1 := hb1.1
  simp at hz1
  have HST : FillI w0 w g l 0 w1 := ⟨none, 0, [], none, 0, [], Inv.nil, ⟨j, hd1⟩, But.trans (by repeat (first | exact But.refl _ _ | exact But.refl _ _ | with_reducible apply But.drew | with_reducible apply But.alloc | (with_reducible refine But.set ?_ (by first | omega | (simp <;> omega)) _) | (with_reducible refine But.bel ?_ (by assumption)) | (with_reducible refine But.trans ?_ (by assumption)))) hb1, by omega,
    ((hb1.cell (by first | omega | (simp <;> omega)) (by omega)).1 _).trans (by go_simp), ((hb1.cell (by first | omega | (simp <;> omega)) (by omega)).1 _).trans (by go_simp), ((hb1.cell (by first | omega | (simp <;> omega)) (by omega)).2 _).trans (by go_simp), ((hb1.cell (by first | omega | (simp <;> omega)) (by omega)).2 _).trans (by go_simp),
    ((hb1.cell (by first | omega | (simp <;> omega)) (by omega)).1 _).trans (by go_simp), ((hb1.cell (by first | omega | (simp <;> omega)) (by omega)).1 _).trans (by go_simp), ((hb1.cell (by first | omega | (simp <;> omega)) (by omega)).2 _).trans (by go_simp), ((hb1.cell (by first | omega | (simp <;> omega)) (by omega)).2 _).trans (by go_simp),
    Own.nil _ _ _ _, Own.nil _ _ _ _, fun k k' hk => by simp [Value.ownBlock] at hk⟩
  have HS := Lib.hid HST
  clear HST hd1 hb1 hr0
  go_wp2_with fail
  go_loopw [4] (fun i wr => ∃ k c : Nat, c + k ≤ 7 ∧ i = .int .i64 k ∧ FillI w0 w g l c wr) (fun i _ => (intOf i).toNat)
  case atStart => exact ⟨n, 0, by omega, rfl, HS.out⟩
  case round =>
    obtain ⟨k, cc, hck, rfl, A, cA, ts, A', cA', ls, hi, hst⟩ := hrel
    have HI := Lib.hid hi
    have tl := hi.tl
    have ll := hi.ll
    have f0 := hst.a0
    have f1 := hst.a1
    have f2 := hst.fa0
    have f3 := hst.fa1
    have f4 := hst.c0
    have f5 := hst.c1
    have f6 := hst.fc0
    have f7 := hst.fc1
    have hsz := hst.sz
    have HS3 := Lib.hid hst
    clear hi hst
    have wt0 : w.heap.size < wr.heap.size := by omega
    have wt1 : w.heap.size < wr.heap.size + 1 := by omega
    have wt2 : w.heap.size < wr.heap.size + 1 + 1 := by omega
    have wt3 : w.heap.size + 1 < wr.heap.size + 1 := by omega
    have wt4 : w.heap.size + 1 < wr.heap.size + 1 + 1 := by omega

    by_cases hk : k = 0
    · subst hk
      go_wp2
      obtain ⟨j, hd3⟩ := HS3.out.dc
      have HT3 := Lib.hid HS3.out.ot
      have HL3 := Lib.hid HS3.out.ol
      have HB3 := Lib.hid HS3.out.bt
      refine bodyPost_ret (v := .agg #[.slice A ts.length cA, .slice A' ls.length cA']) (by simp [results, Try.results16, go_sem, *]) rfl ⟨ts, ls, A, cA, A', cA', j, rfl, HI.out.more (by omega), ?_, ?_, HS3.out.ne, (by repeat (first | exact hd3 | (with_reducible refine Dice.set ?_ (by first | omega | (simp <;> omega)) (by first | omega | (simp <;> omega)) _))), (by repeat (first | exact HB3.out | exact But.refl _ _ | with_reducible apply But.drew | with_reducible apply But.alloc | (with_reducible refine But.set ?_ (by first | omega | (simp <;> omega)) _) | (with_reducible refine But.bel ?_ (by assumption)) | (with_reducible refine But.trans ?_ (by assumption))))⟩
      · exact (by (repeat (first | (with_reducible refine Own.setCell ?_ (fun k hk => by have := HT3.out.block k hk; simp <;> omega) _) | (with_reducible refine Ow.own_alloc ?_ _) | (with_reducible refine Ow.own_drew ?_) | (with_reducible refine Ow.own_drewN ?_ _))); exact HT3.out.lower (by omega))
      · exact (by (repeat (first | (with_reducible refine Own.setCell ?_ (fun k hk => by have := HL3.out.block k hk; simp <;> omega) _) | (with_reducible refine Ow.own_alloc ?_ _) | (with_reducible refine Ow.own_drew ?_) | (with_reducible refine Ow.own_drewN ?_ _))); exact HL3.out.lower (by omega))
    · have qk : decide ((k : Int) > 0) = true := decide_eq_true (by omega)
      have wk : IntKind.i64.wrap ((k : Int) - 1) = ((k - 1 : Nat) : Int) := by rw [IntWalk.i64_in _ (by omega)]; omega
      go_upto_region 5 with fail
      go_cut [11] from 7 to 32 (fun v wx => FillI w0 w g l (cc + 1) wx)
      case first =>
        clear f0 f1 f2 f3
        go_region_law (first | (have _t := HS4; go_simp; go_at_call 11; (with_reducible refine (word3_st (HS4.out.bel (by repeat (first | exact Below.refl _ _ | with_reducible apply bel_drew | with_reducible apply bel_drewN | with_reducible apply bel_alloc | (with_reducible refine bel_set ?_ (by first | omega | (simp <;> omega)) _) | (with_reducible refine bel_step ?_ (by assumption)) | (with_reducible refine bel_step ?_ (grown_none (by assumption)))))) hg _ ⟨#[97]⟩ ⟨#[98]⟩ ⟨#[]⟩ (by first | omega | (simp <;> omega)) (by first | omega | (simp <;> omega)) (by go_simp) (by go_simp) (by go_simp)).mono ?_); rintro e w5 ⟨s5, rfl, hs5, hst5, hb5⟩; have p5x0 := hst5.c0; have p5x1 := hst5.c1; have p5x2 := hst5.fc0; have p5x3 := hst5.fc1; have p5xt0 : w.heap.size + 1 < w5.heap.size := hst5.sz; have p5xt1 : w.heap.size + 1 < w5.heap.size + 1 := (by omega); have p5xt2 : w.heap.size + 1 < w5.heap.size + 1 + 1 := (by omega); have HS5 := Lib.hid hst5; clear hst5 hb5) | (go_simp; go_at_call 11; (with_reducible refine (word3_st (HS3.out.bel (by repeat (first | exact Below.refl _ _ | with_reducible apply bel_drew | with_reducible apply bel_drewN | with_reducible apply bel_alloc | (with_reducible refine bel_set ?_ (by first | omega | (simp <;> omega)) _) | (with_reducible refine bel_step ?_ (by assumption)) | (with_reducible refine bel_step ?_ (grown_none (by assumption)))))) hg _ ⟨#[109, 105, 108, 108]⟩ ⟨#[102, 111, 114, 100]⟩ ⟨#[98, 114, 105, 100, 103, 101]⟩ (by first | omega | (simp <;> omega)) (by first | omega | (simp <;> omega)) (by go_simp) (by go_simp) (by go_simp)).mono ?_); rintro e w4 ⟨s4, rfl, hs4, hst4, hb4⟩; (try (refine (have u0 : w4.cell? ⟨wr.heap.size, 0, none⟩ = some (.string ⟨#[97]⟩) := ?_; have u1 : w4.cell? ⟨wr.heap.size, 1, none⟩ = some (.string ⟨#[98]⟩) := ?_; have u2 : w4.cell? ⟨wr.heap.size, 2, none⟩ = some (.string ⟨#[]⟩) := ?_; have ut : wr.heap.size < w4.heap.size := ?_; ?_); (refine ((hb4.cell ?_ ?_).1 _).trans ?_; (first | omega | (simp <;> omega)); (first | omega | (simp <;> omega)); focus (go_simp; done)); (refine ((hb4.cell ?_ ?_).1 _).trans ?_; (first | omega | (simp <;> omega)); (first | omega | (simp <;> omega)); focus (go_simp; done)); (refine ((hb4.cell ?_ ?_).1 _).trans ?_; (first | omega | (simp <;> omega)); (first | omega | (simp <;> omega)); focus (go_simp; done)); (have h1 := hb4.1; focus (simp at h1; omega)))); (try (refine (have v0 : w4.cell? ⟨wr.heap.size + 1, 0, none⟩ = some (.string ⟨#[97]⟩) := ?_; have v1 : w4.cell? ⟨wr.heap.size + 1, 1, none⟩ = some (.string ⟨#[98]⟩) := ?_; have v2 : w4.cell? ⟨wr.heap.size + 1, 2, none⟩ = some (.string ⟨#[]⟩) := ?_; have vt : wr.heap.size + 1 < w4.heap.size := ?_; ?_); (refine ((hb4.cell ?_ ?_).1 _).trans ?_; (first | omega | (simp <;> omega)); (first | omega | (simp <;> omega)); focus (go_simp; done)); (refine ((hb4.cell ?_ ?_).1 _).trans ?_; (first | omega | (simp <;> omega)); (first | omega | (simp <;> omega)); focus (go_simp; done)); (refine ((hb4.cell ?_ ?_).1 _).trans ?_; (first | omega | (simp <;> omega)); (first | omega | (simp <;> omega)); focus (go_simp; done)); (have h1 := hb4.1; focus (simp at h1; omega)))); have p4x0 := hst4.c0; have p4x1 := hst4.c1; have p4x2 := hst4.fc0; have p4x3 := hst4.fc1; have p4xt0 : w.heap.size + 1 < w4.heap.size := hst4.sz; have p4xt1 : w.heap.size + 1 < w4.heap.size + 1 := (by omega); have p4xt2 : w.heap.size + 1 < w4.heap.size + 1 + 1 := (by omega); have HS4 := Lib.hid hst4; clear hst4 hb4) | (go_simp; go_at_call 19; (with_reducible refine (put_ref A ts.length cA ts A' ls.length cA' ls _ (HS5.out.bel (by repeat (first | exact Below.refl _ _ | with_reducible apply bel_drew | with_reducible apply bel_drewN | with_reducible apply bel_alloc | (with_reducible refine bel_set ?_ (by first | omega | (simp <;> omega)) _) | (with_reducible refine bel_step ?_ (by assumption)) | (with_reducible refine bel_step ?_ (grown_none (by assumption)))))).ot.rd (HS5.out.bel (by repeat (first | exact Below.refl _ _ | with_reducible apply bel_drew | with_reducible apply bel_drewN | with_reducible apply bel_alloc | (with_reducible refine bel_set ?_ (by first | omega | (simp <;> omega)) _) | (with_reducible refine bel_step ?_ (by assumption)) | (with_reducible refine bel_step ?_ (grown_none (by assumption)))))).ol.rd (by omega) (by omega) s4 s5).mono ?_); intro e w6 hp6; obtain ⟨ts', ls', n', hput, hinv⟩ := HI.out.round' (by omega) hs4 hs5; obtain ⟨A6, c6, B6, d6, rfl, ho6, hq6, hne6, hb6⟩ := hp6.open hput rfl rfl; have hst6 := HS5.out.bel (w2 := w6) (by repeat (first | exact Below.refl _ _ | with_reducible apply bel_drew | with_reducible apply bel_drewN | with_reducible apply bel_alloc | (with_reducible refine bel_set ?_ (by first | omega | (simp <;> omega)) _) | (with_reducible refine bel_step ?_ (by assumption)) | (with_reducible refine bel_step ?_ (grown_none (by assumption))))); have q6x0 := hst6.c0; have q6x1 := hst6.c1; have q6x2 := hst6.fc0; have q6x3 := hst6.fc1; have q6t0 : w.heap.size + 1 < w6.heap.size := hst6.sz; clear hst6; have HF6 := Lib.hid (show FillI w0 w g l (cc + 1) _ from ⟨_, _, _, _, _, _, hinv, (HS5.out.bel (by repeat (first | exact Below.refl _ _ | with_reducible apply bel_drew | with_reducible apply bel_drewN | with_reducible apply bel_alloc | (with_reducible refine bel_set ?_ (by first | omega | (simp <;> omega)) _) | (with_reducible refine bel_step ?_ (by assumption)) | (with_reducible refine bel_step ?_ (grown_none (by assumption)))))).fill hg hgw0 hb6 ho6 hq6 hne6⟩); clear ho6 hq6 hne6 hput hp6 hinv))
        all_goals go_wp2_with fail
        all_goals
          go_meet
          case rel => exact HF6.out
      case rest =>
        clear f0 f1 f2 f3 f4 f5 f6 f7 HI tl ll HS3 hsz wt0 wt1 wt2 wt3 wt4 HS
        obtain ⟨A, cA, ts, A', cA', ls, hi, hst⟩ := hcut
        obtain ⟨W5, hW5⟩ : ∃ W5, W5 = wc := ⟨_, rfl⟩
        subst hW5
        have HI := Lib.hid hi
        have tl := hi.tl
        have ll := hi.ll
        have x4 := hst.c0
        have x5 := hst.c1
        have x6 := hst.fc0
        have x7 := hst.fc1
        have xsz := hst.sz
        have HS3 := Lib.hid hst
        clear hi hst
        have xt2 : w.heap.size < W5.heap.size + 1 := by omega
        have xt3 : w.heap.size + 1 < W5.heap.size + 1 := by omega
        have xt4 : w.heap.size + 1 < W5.heap.size + 1 + 1 := by omega

        go_wp2_with fail
        refine (next_st (HS3.out.bel (by repeat (first | exact Below.refl _ _ | with_reducible apply bel_drew | with_reducible apply bel_drewN | with_reducible apply bel_alloc | (with_reducible refine bel_set ?_ (by first | omega | (simp <;> omega)) _) | (with_reducible refine bel_step ?_ (by assumption)) | (with_reducible refine bel_step ?_ (grown_none (by assumption)))))) hg 4 (by omega) (by omega)).mono ?_
        rintro e w2 ⟨r, rfl, hst2, hb2⟩
        clear x4 x5 x6 x7 xsz xt2 xt3 xt4 HS3
        have y4 := hst2.c0
        have y5 := hst2.c1
        have y6 := hst2.fc0
        have y7 := hst2.fc1
        have ysz := hst2.sz
        have yt3 : w.heap.size + 1 < w2.heap.size + 1 := by omega
        have yt4 : w.heap.size + 1 < w2.heap.size + 1 + 1 := by omega
        have HS3 := Lib.hid hst2
        clear hst2 hb2
        by_cases q : r = 0
        · have qe : (r == (0 : Int)) = true := beq_iff_eq.2 q
          go_upto_region 7 with fail
          refine wp_seqK (fun KK hKK => ?_)
          go_cut [11] from 7 to 32 (fun v wx => FillI w0 w g l (cc + 1) wx)
          case first =>
            go_region_law (first | (go_simp; go_at_call 11; (with_reducible refine (word2_st (HS3.out.bel (by repeat (first | exact Below.refl _ _ | with_reducible apply bel_drew | with_reducible apply bel_drewN | with_reducible apply bel_alloc | (with_reducible refine bel_set ?_ (by first | omega | (simp <;> omega)) _) | (with_reducible refine bel_step ?_ (by assumption)) | (with_reducible refine bel_step ?_ (grown_none (by assumption)))))) hg _ ⟨#[109, 105, 108, 108]⟩ ⟨#[102, 111, 114, 100]⟩ (by first | omega | (simp <;> omega)) (by first | omega | (simp <;> omega)) (by go_simp) (by go_simp)).mono ?_); rintro e w4 ⟨s4, rfl, hs4, hst4, hb4⟩; have p4x0 := hst4.c0; have p4x1 := hst4.c1; have p4x2 := hst4.fc0; have p4x3 := hst4.fc1; have p4xt0 : w.heap.size + 1 < w4.heap.size := hst4.sz; have p4xt1 : w.heap.size + 1 < w4.heap.size + 1 := (by omega); have p4xt2 : w.heap.size + 1 < w4.heap.size + 1 + 1 := (by omega); have HS4 := Lib.hid hst4; clear hst4 hb4) | (go_simp; go_at_call 10; (with_reducible refine (next_st (HS4.out.bel (by repeat (first | exact Below.refl _ _ | with_reducible apply bel_drew | with_reducible apply bel_drewN | with_reducible apply bel_alloc | (with_reducible refine bel_set ?_ (by first | omega | (simp <;> omega)) _) | (with_reducible refine bel_step ?_ (by assumption)) | (with_reducible refine bel_step ?_ (grown_none (by assumption)))))) hg 3 (by omega) (by omega)).mono ?_); rintro e w5 ⟨r5, rfl, hst5, hb5⟩; have p5x0 := hst5.c0; have p5x1 := hst5.c1; have p5x2 := hst5.fc0; have p5x3 := hst5.fc1; have p5xt0 : w.heap.size + 1 < w5.heap.size := hst5.sz; have p5xt1 : w.heap.size + 1 < w5.heap.size + 1 := (by omega); have p5xt2 : w.heap.size + 1 < w5.heap.size + 1 + 1 := (by omega); have HS5 := Lib.hid hst5; clear hst5 hb5) | (go_simp; go_at_call 24; (with_reducible refine (drop_ref A ts.length cA ts A' ls.length cA' ls _ (HS5.out.bel (by repeat (first | exact Below.refl _ _ | with_reducible apply bel_drew | with_reducible apply bel_drewN | with_reducible apply bel_alloc | (with_reducible refine bel_set ?_ (by first | omega | (simp <;> omega)) _) | (with_reducible refine bel_step ?_ (by assumption)) | (with_reducible refine bel_step ?_ (grown_none (by assumption)))))).ot.rd (HS5.out.bel (by repeat (first | exact Below.refl _ _ | with_reducible apply bel_drew | with_reducible apply bel_drewN | with_reducible apply bel_alloc | (with_reducible refine bel_set ?_ (by first | omega | (simp <;> omega)) _) | (with_reducible refine bel_step ?_ (by assumption)) | (with_reducible refine bel_step ?_ (grown_none (by assumption)))))).ol.rd (by omega) (by omega) s4 r5).mono ?_); intro e w6 hp6; obtain ⟨ls', hls⟩ : ∃ x, x = ls.filter (keepR s4 r5) := ⟨_, rfl⟩; obtain ⟨A6, c6, B6, d6, rfl, ho6, hq6, hne6, hb6⟩ := hp6.open hls.symm rfl rfl; have hinv : Inv (cc + 1) ts ls' := hls ▸ (HI.out.filter _); clear hls; have hst6 := HS5.out.bel (w2 := w6) (by repeat (first | exact Below.refl _ _ | with_reducible apply bel_drew | with_reducible apply bel_drewN | with_reducible apply bel_alloc | (with_reducible refine bel_set ?_ (by first | omega | (simp <;> omega)) _) | (with_reducible refine bel_step ?_ (by assumption)) | (with_reducible refine bel_step ?_ (grown_none (by assumption))))); have q6x0 := hst6.c0; have q6x1 := hst6.c1; have q6x2 := hst6.fc0; have q6x3 := hst6.fc1; have q6t0 : w.heap.size + 1 < w6.heap.size := hst6.sz; clear hst6; have HF6 := Lib.hid (show FillI w0 w g l (cc + 1) _ from ⟨_, _, _, _, _, _, hinv, (HS5.out.bel (by repeat (first | exact Below.refl _ _ | with_reducible apply bel_drew | with_reducible apply bel_drewN | with_reducible apply bel_alloc | (with_reducible refine bel_set ?_ (by first | omega | (simp <;> omega)) _) | (with_reducible refine bel_step ?_ (by assumption)) | (with_reducible refine bel_step ?_ (grown_none (by assumption)))))).fill hg hgw0 hb6 ho6 hq6 hne6⟩); clear ho6 hq6 hne6 hp6 hinv))
            all_goals go_wp2_with fail
            all_goals
              go_meet
              case rel => exact HF6.out
          case rest =>
            clear HI tl ll HS3 y4 y5 y6 y7 ysz yt3 yt4
            refine hKK _ _ ?_
            go_wp2_with fail
            go_roundw
            case rel => exact ⟨k - 1, cc + 1, by omega, rfl, hcut⟩
            case measure => simp [intOf]; omega
        · have qe : (r == (0 : Int)) = false := beq_eq_false_iff_ne.2 q
          go_wp2_with fail
          go_roundw
          case rel => exact ⟨k - 1, cc + 1, by omega, rfl, _, _, _, _, _, _, HI.out, HS3.out⟩
          case measure => simp [intOf]; omega
end Go.Proofs.Ytamkkpdhponhnaa.Nw
