/- MailboxOnce: what stands in the course of the law. -/
import Derived.Test.YtamkkpdhponhnaaPw
import Derived.LoopTactic
import Derived.Outline
namespace Go.Proofs.Ytamkkpdhponhnaa.Nw
open Go.RowKit Go.Proofs.Ytamkkpdhponhnaa.Ow Go.Proofs.Ytamkkpdhponhnaa.PMailboxAll Go.Proofs.YtamkkpdhponhnaaW.PrintWords
set_option linter.unusedVariables false
set_option linter.unusedSimpArgs false

def pr (l : S41) : Int × ByteArray := (l.f1, l.f2)
/-- Numbers and bodies, from a number on. -/
def nums : Int → List ByteArray → List (Int × ByteArray)
  | _, [] => []
  | j, b :: bs => (j, b) :: nums (j + 1) bs
theorem nums_append : ∀ (j : Int) (bs : List ByteArray) (b : ByteArray), nums j (bs ++ [b]) = nums j bs ++ [(j + bs.length, b)]
  | j, [], b => by simp [nums]
  | j, x :: bs, b => by
    rw [List.cons_append]
    unfold nums
    rw [nums_append (j + 1) bs b, List.cons_append, List.length_cons]
    congr 3
    simp; omega
theorem nums_drop : ∀ (m : Nat) (j : Int) (bs : List ByteArray), (nums j bs).drop m = nums (j + m) (bs.drop m)
  | 0, j, bs => by simp
  | m + 1, j, [] => by simp [nums]
  | m + 1, j, x :: bs => by
    rw [show nums j (x :: bs) = (j, x) :: nums (j + 1) bs from rfl, List.drop_succ_cons, List.drop_succ_cons, nums_drop m (j + 1) bs]
    congr 1
    omega
theorem nums_len : ∀ (j : Int) (bs : List ByteArray), (nums j bs).length = bs.length
  | _, [] => rfl
  | j, x :: bs => by
    rw [show nums j (x :: bs) = (j, x) :: nums (j + 1) bs from rfl, List.length_cons, List.length_cons, nums_len]
theorem nums_get : ∀ (i : Nat) (j : Int) (bs : List ByteArray) (x : Int × ByteArray), (nums j bs)[i]? = some x → x.1 = j + i ∧ bs[i]? = some x.2
  | i, j, [], x, h => by simp [nums] at h
  | 0, j, b :: bs, x, h => by
    rw [show nums j (b :: bs) = (j, b) :: nums (j + 1) bs from rfl] at h
    simp at h; subst h; simp
  | i + 1, j, b :: bs, x, h => by
    rw [show nums j (b :: bs) = (j, b) :: nums (j + 1) bs from rfl] at h
    have := nums_get i (j + 1) bs x (by simpa using h)
    refine ⟨by rw [this.1]; omega, by simpa using this.2⟩
theorem nums_ge : ∀ (F : List S41) (j : Int) (bs : List ByteArray), F.map pr = nums j bs → ∀ l ∈ F, j ≤ l.f1 := by
  intro F j bs h l hl
  obtain ⟨i, hi⟩ := List.mem_iff_getElem?.1 hl
  have h1 : (F.map pr)[i]? = some (pr l) := by rw [List.getElem?_map, hi]; rfl
  rw [h] at h1
  have := (nums_get i j bs _ h1).1
  have e : (pr l).1 = l.f1 := rfl
  omega
theorem nums_filter : ∀ (F : List S41) (j : Int) (bs : List ByteArray) (m : Nat), F.map pr = nums j bs → F.filter (fun l => decide (j + m ≤ l.f1)) = F.drop m
  | F, j, bs, 0, h => by
    rw [List.drop_zero, List.filter_eq_self]
    intro l hl
    have := nums_ge F j bs h l hl
    exact decide_eq_true (by omega)
  | [], j, bs, m + 1, h => by simp
  | l :: F, j, [], m + 1, h => by simp [nums] at h
  | l :: F, j, b :: bs, m + 1, h => by
    rw [show nums j (b :: bs) = (j, b) :: nums (j + 1) bs from rfl, List.map_cons, List.cons.injEq] at h
    have h1 : l.f1 = j := congrArg Prod.fst h.1
    rw [List.filter_cons, if_neg (by simp; omega), List.drop_succ_cons, ← nums_filter F (j + 1) bs m h.2]
    refine List.filter_congr (fun x hx => ?_)
    rw [Bool.eq_iff_iff]
    simp only [decide_eq_true_eq]
    omega
theorem want_more (p : ByteArray) {a b : Int} (h : a ≤ b) (ls : List S41) : ls.filter (wantA p b) = (ls.filter (wantA p a)).filter (fun l => decide (b ≤ l.f1)) := by
  rw [List.filter_filter]
  refine List.filter_congr (fun l hl => ?_)
  rw [Bool.eq_iff_iff]
  simp only [wantA, Bool.and_eq_true, decide_eq_true_eq]
  constructor
  · rintro ⟨h1, h2⟩; exact ⟨h2, h1, by omega⟩
  · rintro ⟨h1, h2, _⟩; exact ⟨h2, h1⟩
structure OnceP (c : Nat) (ts : List S56) (ls : List S41) (want got : List ByteArray) : Prop where
  inv : Inv c ts ls
  nx : nextP ts ⟨#[109, 105, 108, 108]⟩ = want.length
  gt : got = want.take got.length
  pend : (ls.filter (wantA ⟨#[109, 105, 108, 108]⟩ got.length)).map pr = nums got.length (want.drop got.length)
theorem OnceP.le {c : Nat} {ts : List S56} {ls : List S41} {want got : List ByteArray} (h : OnceP c ts ls want got) : got.length ≤ want.length := by
  have := congrArg List.length h.gt
  rw [List.length_take] at this
  omega
theorem once_nil : OnceP 0 [] [] [] [] := ⟨Inv.nil, by unfold nextP placeI placeFrom; simp, by simp, by simp [nums]⟩
theorem once_mill {c : Nat} {ts : List S56} {ls : List S41} {want got : List ByteArray} (h : OnceP c ts ls want got) (hc : c ≤ 14) (b : ByteArray) (hb : b.size ≤ 65536) :
    ∃ ts' ls', putR ts ls ⟨#[109, 105, 108, 108]⟩ b = (ts', ls', nextP ts ⟨#[109, 105, 108, 108]⟩, 0) ∧ OnceP (c + 1) ts' ls' (want ++ [b]) got := by
  have hle := h.le
  obtain ⟨ts', e, h1, h2, h3, h4⟩ := put_ok ts ls ⟨#[109, 105, 108, 108]⟩ b name_mill hb (by have := h.inv.ll; omega) (by have := h.inv.tl; omega)
  have hi := h.inv.put (b := b) (by omega) rfl h1 h2 h3 h4
  refine ⟨ts', _, e, hi, ?_, ?_, ?_⟩
  · rw [h3, h.nx, wrap_succ (by omega) (by have := h.inv.nx ⟨#[109, 105, 108, 108]⟩; have := h.nx; omega)]; simp
  · rw [List.take_append_of_le_length hle]; exact h.gt
  · rw [List.filter_append, List.map_append, h.pend, List.drop_append_of_le_length hle, nums_append]
    congr 1
    rw [List.filter_cons, if_pos (by unfold wantA; exact decide_eq_true ⟨rfl, by show (got.length : Int) ≤ nextP ts ⟨#[109, 105, 108, 108]⟩; rw [h.nx]; omega⟩)]
    simp only [List.filter_nil, List.map_cons, List.map_nil, pr, h.nx, List.length_drop]
    congr 2
    omega
theorem once_ford {c : Nat} {ts : List S56} {ls : List S41} {want got : List ByteArray} (h : OnceP c ts ls want got) (hc : c ≤ 14) (b : ByteArray) (hb : b.size ≤ 65536) :
    ∃ ts' ls', putR ts ls ⟨#[102, 111, 114, 100]⟩ b = (ts', ls', nextP ts ⟨#[102, 111, 114, 100]⟩, 0) ∧ OnceP (c + 1) ts' ls' want got := by
  obtain ⟨ts', e, h1, h2, h3, h4⟩ := put_ok ts ls ⟨#[102, 111, 114, 100]⟩ b name_ford hb (by have := h.inv.ll; omega) (by have := h.inv.tl; omega)
  have hi := h.inv.put (b := b) (by omega) rfl h1 h2 h3 h4
  have hne : ((⟨#[109, 105, 108, 108]⟩ : ByteArray)).toList ≠ ((⟨#[102, 111, 114, 100]⟩ : ByteArray)).toList := by decide +kernel
  refine ⟨ts', _, e, hi, ?_, h.gt, ?_⟩
  · rw [(h4 _ hne).2, h.nx]
  · rw [List.filter_append, List.map_append, h.pend, List.filter_cons, if_neg (by unfold wantA; intro hq; exact hne (of_decide_eq_true hq).1.symm)]
    simp
theorem once_fetch {c : Nat} {ts : List S56} {ls : List S41} {want got : List ByteArray} (h : OnceP c ts ls want got) (hc : c ≤ 100) {lim : Int} (hl : 1 ≤ lim) :
    ∃ L er, fetchR ts ls ⟨#[109, 105, 108, 108]⟩ got.length lim = (L, er) ∧ (er = 0 ∨ er = 55 ∧ want = []) ∧ (L.length : Int) ≤ lim ∧ got.length + L.length ≤ want.length ∧
      (∀ (i : Nat) (y : S41), L[i]? = some y → y.f1 = ((got.length + i : Nat) : Int) ∧ y.f0.toList = ((⟨#[109, 105, 108, 108]⟩ : ByteArray)).toList ∧ want[got.length + i]? = some y.f2) ∧ OnceP c ts ls want (want.take (got.length + L.length)) ∧ (lim = 100 → got.length + L.length = want.length) := by
  have hle := h.le
  by_cases q : placeI ts ⟨#[109, 105, 108, 108]⟩ < 0
  · have h0 : want.length = 0 := by have := h.nx; unfold nextP at this; rw [if_pos q] at this; omega
    refine ⟨[], 55, by unfold fetchR; rw [if_pos q], .inr ⟨rfl, List.eq_nil_of_length_eq_zero h0⟩, by simp; omega, by simp; omega, fun i y hy => by simp at hy, ?_, fun _ => by simp; omega⟩
    rw [List.length_nil, Nat.add_zero, ← h.gt]; exact h
  · have hF : (ls.filter (wantA ⟨#[109, 105, 108, 108]⟩ got.length)).length = want.length - got.length := by
      have := congrArg List.length h.pend
      rw [List.length_map, nums_len, List.length_drop] at this
      exact this
    have hN : want.length ≤ c := by have := h.inv.nx ⟨#[109, 105, 108, 108]⟩; have := h.nx; omega
    refine ⟨(ls.filter (wantA ⟨#[109, 105, 108, 108]⟩ got.length)).take lim.toNat, 0, by unfold fetchR; rw [if_neg q, if_neg (by omega), fetchA_take], .inl rfl, by rw [List.length_take]; omega, by rw [List.length_take]; omega, ?_, ?_, fun e => by rw [List.length_take]; omega⟩
    · intro i y hy
      have hi := (List.getElem?_eq_some_iff.1 hy).1
      rw [List.length_take] at hi
      rw [List.getElem?_take_of_lt (by omega)] at hy
      have hm : ((ls.filter (wantA ⟨#[109, 105, 108, 108]⟩ got.length)).map pr)[i]? = some (pr y) := by rw [List.getElem?_map, hy]; rfl
      rw [h.pend] at hm
      obtain ⟨g1, g2⟩ := nums_get i _ _ _ hm
      have hw := (List.mem_filter.1 (List.mem_of_getElem? hy)).2
      unfold wantA at hw
      refine ⟨by have e : (pr y).1 = y.f1 := rfl; omega, (of_decide_eq_true hw).1, ?_⟩
      rw [List.getElem?_drop] at g2
      exact g2
    · generalize hm : ((ls.filter (wantA ⟨#[109, 105, 108, 108]⟩ got.length)).take lim.toNat).length = m
      have hm' : m ≤ want.length - got.length := by rw [← hm, List.length_take]; omega
      have hlen : (want.take (got.length + m)).length = got.length + m := by rw [List.length_take]; omega
      refine ⟨h.inv, h.nx, by rw [hlen], ?_⟩
      rw [hlen, want_more ⟨#[109, 105, 108, 108]⟩ (a := got.length) (by omega)]
      have e := nums_filter _ _ _ m h.pend
      rw [show ((got.length + m : Nat) : Int) = (got.length : Int) + m by omega, e, List.map_drop, h.pend, nums_drop, List.drop_drop]
theorem once_drop {c : Nat} {ts : List S56} {ls : List S41} {want got : List ByteArray} (h : OnceP c ts ls want got) : OnceP c ts (stay ⟨#[109, 105, 108, 108]⟩ got.length ls) want got := by
  refine ⟨stay_inv h.inv _ _, h.nx, h.gt, ?_⟩
  rw [← h.pend]
  congr 1
  unfold stay
  rw [List.filter_filter]
  refine List.filter_congr (fun l hl => ?_)
  rw [Bool.eq_iff_iff]
  simp only [wantA, wantD, Bool.and_eq_true, Bool.not_eq_true', decide_eq_true_eq, decide_eq_false_iff_not]
  constructor
  · rintro ⟨h1, _⟩; exact h1
  · rintro ⟨h1, h2⟩; exact ⟨⟨h1, h2⟩, fun h3 => by omega⟩

def ds : En ByteArray := { enc := fun x => [.string x], sz := 1, pos := by omega, len := fun _ => rfl, one := fun x u hu => by simp at hu; subst hu; rfl }
theorem info9 : (Try.prog.info? 9).map (fun i => (i.zero, i.size, i.bytes)) = some (some (.string ⟨#[]⟩), 1, 16) := by kernel_rfl
theorem rd_lit9 {w : World} {b : Nat} (x : ByteArray) (hb : b < w.heap.size) (h0 : w.cell? ⟨b, 0, none⟩ = some (.string x)) : Rd ds w (.slice (some ⟨b, 0, none⟩) 1 1) [x] := by
  refine Or.inr ⟨b, 0, 1, rfl, Nat.le_refl _, by unfold maxLen; omega, hb, fun j u hj => ?_⟩
  match j, hj with
  | 0, hj => simp [flat, ds] at hj; subst hj; exact h0
  | j + 1, hj => simp [flat, ds] at hj
theorem Dice.grown {w0 w w1 : World} {g : Nat} {l : List Int} {i : Int} {row : Option Nat} (h : Dice w0 w g l i) (hg : w.grownBy w1 row) (hr : ∀ k, row = some k → k ≠ g ∧ w0.heap.size ≤ k) : Dice w0 w1 g l i :=
  ⟨h.1.grown hg (fun e => (hr g e.symm).1 rfl), h.2.1, bel_grown h.2.2 hg (fun k hk => (hr k hk).2)⟩
/-- The mailbox in its box, the bodies that are wanted, the bodies that were got. -/
structure On (w0 w : World) (g : Nat) (l : List Int) (A : Option Addr) (cA : Nat) (ts : List S56) (B : Option Addr) (cB : Nat) (ls : List S41) (Aw : Option Addr) (cw : Nat) (want : List ByteArray) (Ag : Option Addr) (cg : Nat) (got : List ByteArray) (wx : World) : Prop where
  dc : ∃ j, Dice w0 wx g l j
  sz : w.heap.size < wx.heap.size
  c0 : wx.cell? ⟨w.heap.size, 0, none⟩ = some (.slice A ts.length cA)
  c1 : wx.cell? ⟨w.heap.size, 1, none⟩ = some (.slice B ls.length cB)
  fc0 : wx.frozen? ⟨w.heap.size, 0, none⟩ = false
  fc1 : wx.frozen? ⟨w.heap.size, 1, none⟩ = false
  ot : Own dt 56 wx (w.heap.size + 1) (.slice A ts.length cA) ts
  ol : Own dl 41 wx (w.heap.size + 1) (.slice B ls.length cB) ls
  ow : Own ds 9 wx (w.heap.size + 1) (.slice Aw want.length cw) want
  og : Own ds 9 wx (w.heap.size + 1) (.slice Ag got.length cg) got
  s1 : ∀ k, (Value.slice Aw want.length cw).ownBlock = some k → (Value.slice A ts.length cA).ownBlock ≠ some k ∧ (Value.slice B ls.length cB).ownBlock ≠ some k ∧ (Value.slice Ag got.length cg).ownBlock ≠ some k
  s2 : ∀ k, (Value.slice Ag got.length cg).ownBlock = some k → (Value.slice A ts.length cA).ownBlock ≠ some k ∧ (Value.slice B ls.length cB).ownBlock ≠ some k ∧ (Value.slice Aw want.length cw).ownBlock ≠ some k
section
variable {w0 w : World} {g : Nat} {l : List Int} {A : Option Addr} {cA : Nat} {ts : List S56} {B : Option Addr} {cB : Nat} {ls : List S41} {Aw : Option Addr} {cw : Nat} {want : List ByteArray} {Ag : Option Addr} {cg : Nat} {got : List ByteArray} {wx w2 : World}
theorem On.bel (h : On w0 w g l A cA ts B cB ls Aw cw want Ag cg got wx) (hb : Below wx.heap.size wx w2) : On w0 w g l A cA ts B cB ls Aw cw want Ag cg got w2 := by
  obtain ⟨⟨j, hd⟩, h3, h8, h9, h10, h11, h12, h13, h14, h15, h16, h17⟩ := h
  obtain ⟨hc, hf⟩ := bcell hb
  have := hb.size
  exact ⟨⟨j, hd.step hb⟩, by omega, (hc _ _ h3).trans h8, (hc _ _ h3).trans h9, (hf _ _ h3).trans h10, (hf _ _ h3).trans h11, h12.below hb, h13.below hb, h14.below hb, h15.below hb, h16, h17⟩
theorem On.but {j : Int} (h : On w0 w g l A cA ts B cB ls Aw cw want Ag cg got wx) (hg : g < w.heap.size) (hd : Dice w0 w2 g l j) (hb : But wx w2 g) : On w0 w g l A cA ts B cB ls Aw cw want Ag cg got w2 := by
  obtain ⟨_, h3, h8, h9, h10, h11, h12, h13, h14, h15, h16, h17⟩ := h
  have := hb.1
  obtain ⟨hc, hf⟩ := hb.cell (b := w.heap.size) h3 (by omega)
  exact ⟨⟨j, hd⟩, by omega, (hc _).trans h8, (hc _).trans h9, (hf _).trans h10, (hf _).trans h11, own_but h12 hb (by omega), own_but h13 hb (by omega), own_but h14 hb (by omega), own_but h15 hb (by omega), h16, h17⟩
theorem On.fill (h : On w0 w g l A cA ts B cB ls Aw cw want Ag cg got wx) (hg : g < w.heap.size) (hgw : w0.heap.size ≤ w.heap.size) (hb : Below wx.heap.size wx w2) {A6 : Option Addr} {c6 : Nat} {ts' : List S56} {B6 : Option Addr} {d6 : Nat} {ls' : List S41}
    (h1 : Own dt 56 w2 wx.heap.size (.slice A6 ts'.length c6) ts') (h2 : Own dl 41 w2 wx.heap.size (.slice B6 ls'.length d6) ls') :
    On w0 w g l A6 c6 ts' B6 d6 ls' Aw cw want Ag cg got ((w2.setCell ⟨w.heap.size, 0, none⟩ (.slice A6 ts'.length c6)).setCell ⟨w.heap.size, 1, none⟩ (.slice B6 ls'.length d6)) := by
  have hs := h.sz
  have kw := h.ow.block
  have kg := h.og.block
  obtain ⟨⟨j, hd⟩, k3, k8, k9, k10, k11, k12, k13, k14, k15, k16, k17⟩ := h.bel hb
  refine ⟨⟨j, (hd.set (by simp; omega) (by simp; omega) _).set (by simp; omega) (by simp; omega) _⟩, by simp; omega, by go_simp, by go_simp, by go_simp, by go_simp, ?_, ?_, ?_, ?_, fun k hk => ⟨fun e => ?_, fun e => ?_, (k16 k hk).2.2⟩, fun k hk => ⟨fun e => ?_, fun e => ?_, (k17 k hk).2.2⟩⟩
  · exact ((h1.setCell (fun k hk => by have := h1.block k hk; simp; omega) _).setCell (fun k hk => by have := h1.block k hk; simp; omega) _).lower (by omega)
  · exact ((h2.setCell (fun k hk => by have := h2.block k hk; simp; omega) _).setCell (fun k hk => by have := h2.block k hk; simp; omega) _).lower (by omega)
  · exact ((k14.setCell (fun k hk => by have := k14.block k hk; simp; omega) _).setCell (fun k hk => by have := k14.block k hk; simp; omega) _)
  · exact ((k15.setCell (fun k hk => by have := k15.block k hk; simp; omega) _).setCell (fun k hk => by have := k15.block k hk; simp; omega) _)
  · have := kw k hk; have := h1.block k e; omega
  · have := kw k hk; have := h2.block k e; omega
  · have := kg k hk; have := h1.block k e; omega
  · have := kg k hk; have := h2.block k e; omega
theorem On.wants (h : On w0 w g l A cA ts B cB ls Aw cw want Ag cg got wx) (hg : g < w.heap.size) (hgw : w0.heap.size ≤ w.heap.size) {A6 : Option Addr} {c6 : Nat} {want' : List ByteArray} (ho : Own ds 9 w2 (w.heap.size + 1) (.slice A6 want'.length c6) want')
    (hgr : wx.grownBy w2 (Value.slice Aw want.length cw).ownBlock) (hat : (Value.slice A6 want'.length c6).ownBlock = (Value.slice Aw want.length cw).ownBlock ∨ (Value.slice A6 want'.length c6).ownBlock = some wx.heap.size) :
    On w0 w g l A cA ts B cB ls A6 c6 want' Ag cg got w2 := by
  obtain ⟨⟨j, hd⟩, k3, k8, k9, k10, k11, k12, k13, k14, k15, k16, k17⟩ := h
  have kb := k14.block
  have hs := hgr.size
  obtain ⟨hc, hf⟩ := grown_cell hgr k3 (fun e => by have := kb _ e; omega)
  have hn : ∀ k, (Value.slice A6 want'.length c6).ownBlock = some k → (Value.slice A ts.length cA).ownBlock ≠ some k ∧ (Value.slice B ls.length cB).ownBlock ≠ some k ∧ (Value.slice Ag got.length cg).ownBlock ≠ some k :=
    block_at hat _ k16 ⟨fun e => by have := k12.block _ e; omega, fun e => by have := k13.block _ e; omega, fun e => by have := k15.block _ e; omega⟩
  exact ⟨⟨j, hd.grown hgr (fun k hk => by have := kb k hk; omega)⟩, by omega, (hc _).trans k8, (hc _).trans k9, (hf _).trans k10, (hf _).trans k11, own_grown k12 hgr (fun k hk e => (k16 k e).1 hk), own_grown k13 hgr (fun k hk e => (k16 k e).2.1 hk), ho,
    own_grown k15 hgr (fun k hk e => (k16 k e).2.2 hk), hn, fun k hk => ⟨(k17 k hk).1, (k17 k hk).2.1, fun e => (hn k e).2.2 hk⟩⟩
theorem On.gots (h : On w0 w g l A cA ts B cB ls Aw cw want Ag cg got wx) (hg : g < w.heap.size) (hgw : w0.heap.size ≤ w.heap.size) {A6 : Option Addr} {c6 : Nat} {got' : List ByteArray} (ho : Own ds 9 w2 (w.heap.size + 1) (.slice A6 got'.length c6) got')
    (hgr : wx.grownBy w2 (Value.slice Ag got.length cg).ownBlock) (hat : (Value.slice A6 got'.length c6).ownBlock = (Value.slice Ag got.length cg).ownBlock ∨ (Value.slice A6 got'.length c6).ownBlock = some wx.heap.size) :
    On w0 w g l A cA ts B cB ls Aw cw want A6 c6 got' w2 := by
  obtain ⟨⟨j, hd⟩, k3, k8, k9, k10, k11, k12, k13, k14, k15, k16, k17⟩ := h
  have kb := k15.block
  have hs := hgr.size
  obtain ⟨hc, hf⟩ := grown_cell hgr k3 (fun e => by have := kb _ e; omega)
  have hn : ∀ k, (Value.slice A6 got'.length c6).ownBlock = some k → (Value.slice A ts.length cA).ownBlock ≠ some k ∧ (Value.slice B ls.length cB).ownBlock ≠ some k ∧ (Value.slice Aw want.length cw).ownBlock ≠ some k :=
    block_at hat _ k17 ⟨fun e => by have := k12.block _ e; omega, fun e => by have := k13.block _ e; omega, fun e => by have := k14.block _ e; omega⟩
  exact ⟨⟨j, hd.grown hgr (fun k hk => by have := kb k hk; omega)⟩, by omega, (hc _).trans k8, (hc _).trans k9, (hf _).trans k10, (hf _).trans k11, own_grown k12 hgr (fun k hk e => (k17 k e).1 hk), own_grown k13 hgr (fun k hk e => (k17 k e).2.1 hk),
    own_grown k14 hgr (fun k hk e => (k17 k e).2.2 hk), ho, fun k hk => ⟨(k16 k hk).1, (k16 k hk).2.1, fun e => (hn k e).2.2 hk⟩, hn⟩
theorem word3_on (h : On w0 w g l A cA ts B cB ls Aw cw want Ag cg got wx) (hg : g < w.heap.size) (b : Nat) (s0 s1 s2 : ByteArray) (hb : b < wx.heap.size) (hbg : b ≠ g) (h0 : wx.cell? ⟨b, 0, none⟩ = some (.string s0)) (h1 : wx.cell? ⟨b, 1, none⟩ = some (.string s1)) (h2 : wx.cell? ⟨b, 2, none⟩ = some (.string s2)) :
    Calls Try.prog 11 #[.pointer (some ⟨g, 0, none⟩), .slice (some ⟨b, 0, none⟩) 3 3] wx fun e w' => ∃ r, e = .returned (.string r) ∧ (r = s0 ∨ r = s1 ∨ r = s2) ∧ On w0 w g l A cA ts B cB ls Aw cw want Ag cg got w' ∧ wx.heap.size ≤ w'.heap.size := by
  obtain ⟨j, hd⟩ := h.dc
  refine (word3_any g l j w0 wx hd b s0 s1 s2 hb hbg h0 h1 h2).mono ?_
  rintro e w' ⟨r, j', he, hr, hd', hb'⟩
  exact ⟨r, he, hr, h.but hg hd' hb', hb'.1⟩
theorem word2_on (h : On w0 w g l A cA ts B cB ls Aw cw want Ag cg got wx) (hg : g < w.heap.size) (b : Nat) (s0 s1 : ByteArray) (hb : b < wx.heap.size) (hbg : b ≠ g) (h0 : wx.cell? ⟨b, 0, none⟩ = some (.string s0)) (h1 : wx.cell? ⟨b, 1, none⟩ = some (.string s1)) :
    Calls Try.prog 11 #[.pointer (some ⟨g, 0, none⟩), .slice (some ⟨b, 0, none⟩) 2 2] wx fun e w' => ∃ r, e = .returned (.string r) ∧ (r = s0 ∨ r = s1) ∧ On w0 w g l A cA ts B cB ls Aw cw want Ag cg got w' ∧ wx.heap.size ≤ w'.heap.size := by
  obtain ⟨j, hd⟩ := h.dc
  refine (word2_any g l j w0 wx hd b s0 s1 hb hbg h0 h1).mono ?_
  rintro e w' ⟨r, j', he, hr, hd', hb'⟩
  exact ⟨r, he, hr, h.but hg hd' hb', hb'.1⟩
theorem next_on (h : On w0 w g l A cA ts B cB ls Aw cw want Ag cg got wx) (hg : g < w.heap.size) (m : Int) (hm : 1 ≤ m) (hm' : m ≤ 1000) :
    Calls Try.prog 10 #[.pointer (some ⟨g, 0, none⟩), .int .i64 m] wx fun e w' => ∃ r, e = .returned (.int .i64 r) ∧ On w0 w g l A cA ts B cB ls Aw cw want Ag cg got w' ∧ wx.heap.size ≤ w'.heap.size := by
  obtain ⟨j, hd⟩ := h.dc
  refine (dnext_any g l j m w0 wx hd hm (by omega)).mono ?_
  rintro e w' ⟨r, j', he, _, _, hd', hb'⟩
  exact ⟨r, he, h.but hg hd' hb', hb'.1⟩
end
theorem once_put {c : Nat} {ts : List S56} {ls : List S41} {want got : List ByteArray} (h : OnceP c ts ls want got) (hc : c ≤ 14) {p b : ByteArray} (hp : p = ⟨#[109, 105, 108, 108]⟩ ∨ p = ⟨#[102, 111, 114, 100]⟩) (hb : b = ⟨#[97]⟩ ∨ b = ⟨#[98]⟩ ∨ b = ⟨#[99]⟩) :
    ∃ ts' ls' want', putR ts ls p b = (ts', ls', nextP ts p, 0) ∧ OnceP (c + 1) ts' ls' want' got ∧ ((p = ⟨#[109, 105, 108, 108]⟩ ∧ want' = want ++ [b]) ∨ (p = ⟨#[102, 111, 114, 100]⟩ ∧ want' = want)) := by
  have hs : b.size ≤ 65536 := by rcases hb with rfl | rfl | rfl <;> decide
  rcases hp with rfl | rfl
  · obtain ⟨ts', ls', e, h'⟩ := once_mill h hc b hs
    exact ⟨ts', ls', _, e, h', .inl ⟨rfl, rfl⟩⟩
  · obtain ⟨ts', ls', e, h'⟩ := once_ford h hc b hs
    exact ⟨ts', ls', _, e, h', .inr ⟨rfl, rfl⟩⟩
end Go.Proofs.Ytamkkpdhponhnaa.Nw
