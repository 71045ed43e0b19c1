/- Contract: slices.DeleteFunc of letters. -/
import Derived.Test.YtamkkpdhponhnaaPh
import Derived.LoopTactic
import Derived.Outline
import Derived.Deep.RegionLaw
import Derived.Deep.Heap
namespace Go.Proofs.Ytamkkpdhponhnaa.Nw
open Go.RowKit Go.Proofs.Ytamkkpdhponhnaa.Ow Go.Proofs.Ytamkkpdhponhnaa.PMailboxAll Go.Proofs.YtamkkpdhponhnaaW.PrintWords
set_option linter.unusedVariables false
set_option linter.unusedSimpArgs false

/-- Nothing but one block is turned, of what there was. -/
def ButB (w w' : World) (g : Nat) : Prop := w.heap.size ≤ w'.heap.size ∧ (∀ k, k < w.heap.size → k ≠ g → w'.heap[k]? = w.heap[k]?) ∧ ∀ B, B ≤ g → B ≤ w.heap.size → Below B w w'
theorem ButB.refl (w : World) (g : Nat) : ButB w w g := ⟨Nat.le_refl _, fun _ _ _ => rfl, fun B _ _ => Below.refl _ _⟩
theorem ButB.below {w w1 w2 : World} {g : Nat} (h : ButB w w1 g) (hb : Below w1.heap.size w1 w2) : ButB w w2 g := ⟨Nat.le_trans h.1 hb.size, fun k hk hg => (hb.block k (Nat.lt_of_lt_of_le hk h.1)).trans (h.2.1 k hk hg), fun B h1 h2 => (h.2.2 B h1 h2).trans (hb.mono (Nat.le_trans h2 h.1))⟩
theorem ButB.set {w w1 : World} {g o : Nat} (h : ButB w w1 g) (u : Value) : ButB w (w1.setCell ⟨g, o, none⟩ u) g :=
  ⟨by simp; exact h.1, fun k hk hg => (Deep.blk_setCell_other w1 ⟨g, o, none⟩ u k hg).trans (h.2.1 k hk hg), fun B h1 h2 => (h.2.2 B h1 h2).setCell h1 u⟩
theorem ButB.sets {w w1 : World} {g : Nat} (h : ButB w w1 g) (o : Nat) (vs : List Value) : ButB w (w1.setCells g o vs) g := by
  induction vs generalizing o w1 with
  | nil => exact h
  | cons v vs ih => exact ih (h.set v) (o + 1)
theorem ButB.cell {w w' : World} {g : Nat} (h : ButB w w' g) {b : Nat} (hb : b < w.heap.size) (hg : b ≠ g) (o : Nat) : w'.cell? ⟨b, o, none⟩ = w.cell? ⟨b, o, none⟩ := World.cell?_of_block (w := w) (h.2.1 b hb hg)
theorem ButB.frozen {w w' : World} {g : Nat} (h : ButB w w' g) {b : Nat} (hb : b < w.heap.size) (hg : b ≠ g) (o : Nat) : w'.frozen? ⟨b, o, none⟩ = w.frozen? ⟨b, o, none⟩ := World.frozen?_of_block (w := w) (h.2.1 b hb hg)
theorem ButB.of {w w0 w1 : World} {g : Nat} (hb : Below w.heap.size w w0) (h : ButB w0 w1 g) : ButB w w1 g := ⟨Nat.le_trans hb.size h.1, fun k hk hg => (h.2.1 k (Nat.lt_of_lt_of_le hk hb.size) hg).trans (hb.block k hk), fun B h1 h2 => (hb.mono h2).trans (h.2.2 B h1 (Nat.le_trans h2 hb.size))⟩
theorem Boxes.but {p : ByteArray} {fr bl : Int} {b0 b1 b2 b3 g : Nat} {w w' : World} (h : Boxes p fr bl b0 b1 b2 b3 w) (hb : ButB w w' g) (hg : b0 ≠ g ∧ b1 ≠ g ∧ b2 ≠ g ∧ b3 ≠ g) : Boxes p fr bl b0 b1 b2 b3 w' := by
  obtain ⟨h0, h1, h2, h3, c0, c1, c2, c3⟩ := h
  have := hb.1
  exact ⟨by omega, by omega, by omega, by omega, (hb.cell h0 hg.1 _).trans c0, (hb.cell h1 hg.2.1 _).trans c1, (hb.cell h2 hg.2.2.1 _).trans c2, (hb.cell h3 hg.2.2.2 _).trans c3⟩
theorem filt_no {f : S41 → Bool} {ls : List S41} {j : Nat} {v : S41} (h : ls[j]? = some v) (hf : f v = true) : (ls.take (j + 1)).filter (fun l => !f l) = (ls.take j).filter (fun l => !f l) := by
  obtain ⟨h1, h2⟩ := List.getElem?_eq_some_iff.1 h
  rw [List.take_succ_eq_append_getElem h1, h2, List.filter_append]
  simp [List.filter, hf]
theorem filt_yes {f : S41 → Bool} {ls : List S41} {j : Nat} {v : S41} (h : ls[j]? = some v) (hf : f v = false) : (ls.take (j + 1)).filter (fun l => !f l) = (ls.take j).filter (fun l => !f l) ++ [v] := by
  obtain ⟨h1, h2⟩ := List.getElem?_eq_some_iff.1 h
  rw [List.take_succ_eq_append_getElem h1, h2, List.filter_append]
  simp [List.filter, hf]
theorem set_take {zs : List S41} {i : Nat} {v : S41} (hi : i < zs.length) : (zs.set i v).take (i + 1) = zs.take i ++ [v] := by
  rw [List.take_succ_eq_append_getElem (by simpa using hi)]
  simp [List.take_set_of_le]
theorem set_drop {zs : List S41} {i j : Nat} {v : S41} (hij : i < j) : (zs.set i v).drop j = zs.drop j := by
  rw [List.drop_set]
  rw [if_pos hij]
def DelIs (w : World) (B : Nat) (A : Option Addr) (e : Ending) (w' : World) (ys : List S41) : Prop := ∃ c', e = .returned (.slice A ys.length c') ∧ Own dl 41 w' B (.slice A ys.length c') ys ∧ ∀ g, (∀ k, (Value.slice A 0 0).ownBlock = some k → k = g) → ButB w w' g
set_option maxHeartbeats 4000000 in
theorem delete_any (A : Option Addr) (c B : Nat) (ls : List S41) (b0 b1 b2 b3 : Nat) (p : ByteArray) (fr bl : Int) (w : World) (ho : Own dl 41 w B (.slice A ls.length c) ls) (hl : ls.length ≤ 1000000) (hx : Boxes p fr bl b0 b1 b2 b3 w)
    (hne : ∀ k, (Value.slice A ls.length c).ownBlock = some k → b0 ≠ k ∧ b1 ≠ k ∧ b2 ≠ k ∧ b3 ≠ k) :
    Calls Try.prog 32 #[.slice A ls.length c, .func (.func 43) #[] #[.pointer (some ⟨b0, 0, none⟩), .pointer (some ⟨b1, 0, none⟩), .pointer (some ⟨b2, 0, none⟩)]] w fun e w' => DelIs w B A e w' (ls.filter (fun l => !wantD p fr bl l)) := by
  have HO := Lib.hid ho
  have HXW := Lib.hid hx
  have hcap := ho.rd.cap
  obtain ⟨f, hf⟩ : ∃ f, f = wantD p fr bl := ⟨_, rfl⟩
  have HIDX := indexL_any A ls.length c ls b0 b1 b2 b3 p fr bl w ho.rd hl hx
  have HD := Lib.hid (fun (W : World) (l : S41) (h : Boxes p fr bl b0 b1 b2 b3 W) => del1_any l h)
  rw [← hf] at HIDX HD ⊢
  have HIX := Lib.hid HIDX
  clear HIDX hf ho hx
  go_enter Try.func32, Try.ntmps32
  go_wp2_with fail
  refine (HIX.out).mono ?_
  rintro e w0 ⟨rfl, hb0⟩
  have hz0 := hb0.size
  rcases idxFrom_bd f ls 0 with ⟨h1, h2⟩ | ⟨k, h1, h2, h3, h4⟩
  · rw [h1]
    have HF := Lib.hid h2
    clear h1 h2
    go_wp2
    go_ret
    rw [HF.out]
    exact ⟨c, rfl, HO.out.below hb0, fun g hg => ButB.of hb0 (ButB.refl _ _)⟩
  · rw [h1, Nat.zero_add]
    obtain ⟨g, rfl⟩ : ∃ g, A = some ⟨g, 0, none⟩ := by
      rcases HO.out.2 with ⟨hv, hn⟩ | ⟨g, cap, cur, hv, _⟩
      · omega
      · simp only [Value.slice.injEq] at hv; exact ⟨g, hv.1⟩
    have hgn := hne g rfl
    obtain ⟨xk, hxk⟩ : ∃ x, ls[k]? = some x := ⟨_, List.getElem?_eq_getElem h2⟩
    have hst : ls.take k = (ls.take (k + 1)).filter (fun l => !f l) := by rw [filt_no hxk (h3 xk hxk), h4]
    have hgB := (HO.out.block g rfl).1
    have hgl := (HO.out.block g rfl).2
    have HO0 := Lib.hid (HO.out.below hb0)
    have HX0 := Lib.hid (HXW.out.below hb0)
    have hw1 : IntKind.i64.wrap ((k : Int) + 1) = ((k + 1 : Nat) : Int) := IntWalk.i64_in _ (by omega)
    have hkm : (((k : Nat) : Int) == -1) = false := by rw [beq_eq_false_iff_ne]; omega
    have hk1 : k < ls.length := h2
    have HST := Lib.hid hst
    clear h1 h3 h4 hxk hst h2 hne
    go_wp2_with fail
    go_loopw [5, 6] (fun iv jv wr => ∃ (i j : Nat) (zs : List S41), i < j ∧ j ≤ ls.length ∧ iv = .int .i64 i ∧ jv = .int .i64 j ∧ zs.length = ls.length ∧ Own dl 41 wr B (.slice (some ⟨g, 0, none⟩) ls.length c) zs ∧ ButB w0 wr g ∧ zs.take i = (ls.take j).filter (fun l => !f l) ∧ zs.drop j = ls.drop j) (fun _ jv _ => ls.length - (intOf jv).toNat)
    case atStart => exact ⟨k, k + 1, ls, by omega, by omega, rfl, by go_num, rfl, HO0.out, ButB.refl _ _, HST.out, rfl⟩
    case round =>
      obtain ⟨i, j, zs, hij, hj, rfl, rfl, hzl, hoz, hbz, hta, hdr⟩ := hrel
      have hzw := hbz.1
      have HOZ := Lib.hid hoz
      have HBZ := Lib.hid hbz
      have hglr : g < wr.heap.size := by omega
      by_cases hlt : j < ls.length
      · obtain ⟨v, hv⟩ : ∃ v, ls[j]? = some v := ⟨_, List.getElem?_eq_getElem hlt⟩
        have hzv : zs[j]? = some v := by
          have e1 := congrArg (fun l : List S41 => l[0]?) hdr
          simp only [List.getElem?_drop, Nat.add_zero] at e1
          rw [e1, hv]
        obtain ⟨u, hu⟩ : ∃ u, zs[i]? = some u := ⟨_, List.getElem?_eq_getElem (by omega)⟩
        have HDR := Lib.hid hdr
        have HTA := Lib.hid hta
        obtain ⟨c0, c1, c2⟩ : wr.cell? ⟨g, j * 3, none⟩ = some (.string v.f0) ∧ wr.cell? ⟨g, j * 3 + 1, none⟩ = some (.int .i64 v.f1) ∧ wr.cell? ⟨g, j * 3 + 2, none⟩ = some (.string v.f2) := by
          obtain ⟨gh, oh, he, hlt', hcx⟩ := hoz.rd.at_ hzv
          injection he with he; injection he with h1 h2
          subst h1; subst h2
          have := hcx 0 _ rfl; have h1 := hcx 1 _ rfl; have h2 := hcx 2 _ rfl
          simp only [Nat.zero_add] at this h1 h2
          exact ⟨this, h1, h2⟩
        obtain ⟨d0, d1, d2⟩ : wr.cell? ⟨g, i * 3, none⟩ = some (.string u.f0) ∧ wr.cell? ⟨g, i * 3 + 1, none⟩ = some (.int .i64 u.f1) ∧ wr.cell? ⟨g, i * 3 + 2, none⟩ = some (.string u.f2) := by
          obtain ⟨gh, oh, he, hlt', hcx⟩ := hoz.rd.at_ hu
          injection he with he; injection he with h1 h2
          subst h1; subst h2
          have := hcx 0 _ rfl; have h1 := hcx 1 _ rfl; have h2 := hcx 2 _ rfl
          simp only [Nat.zero_add] at this h1 h2
          exact ⟨this, h1, h2⟩
        have f0 : ∀ o, wr.frozen? ⟨g, o, none⟩ = false := fun o => by
          have h := hoz
          rw [← hzl] at h
          exact World.ownsRow.frozenAt h o
        have HBX := Lib.hid (HX0.out.but hbz hgn)
        have HHV := Lib.hid hv
        have gi : i < ls.length := by omega
        have gl1 : g < wr.heap.size + 1 := by omega
        have hw2 : IntKind.i64.wrap ((i : Int) + 1) = ((i + 1 : Nat) : Int) := IntWalk.i64_in _ (by omega)
        have hw3 : IntKind.i64.wrap ((j : Int) + 1) = ((j + 1 : Nat) : Int) := IntWalk.i64_in _ (by omega)
        clear hoz hbz hta hdr hv hzv hu
        by_cases hq : f v = true
        · have HQ := Lib.hid (filt_no HHV.out hq)
          go_wp2_with (go_at_call 43; refine (HD.out _ v (HBX.out.below (by repeat (first | exact Below.refl _ _ | with_reducible apply bel_drew | with_reducible apply bel_drewN | with_reducible apply bel_alloc | (with_reducible refine bel_set ?_ (by first | omega | (simp <;> omega)) _) | (with_reducible refine bel_step ?_ (by assumption)) | (with_reducible refine bel_step ?_ (grown_none (by assumption))))))).mono ?_; rintro e w2 ⟨rfl, hb2⟩; rw [hq])
          go_roundw
          case rel => exact ⟨i, j + 1, zs, by omega, by omega, rfl, by go_num, hzl, HOZ.out.below (by repeat (first | exact Below.refl _ _ | with_reducible apply bel_drew | with_reducible apply bel_drewN | with_reducible apply bel_alloc | (with_reducible refine bel_set ?_ (by first | omega | (simp <;> omega)) _) | (with_reducible refine bel_step ?_ (by assumption)) | (with_reducible refine bel_step ?_ (grown_none (by assumption))))), HBZ.out.below (by repeat (first | exact Below.refl _ _ | with_reducible apply bel_drew | with_reducible apply bel_drewN | with_reducible apply bel_alloc | (with_reducible refine bel_set ?_ (by first | omega | (simp <;> omega)) _) | (with_reducible refine bel_step ?_ (by assumption)) | (with_reducible refine bel_step ?_ (grown_none (by assumption))))), by rw [HTA.out, HQ.out], by rw [← List.drop_drop, ← List.drop_drop, HDR.out]⟩
          case measure => simp [intOf]; omega
        · have hqf : f v = false := by simpa using hq
          have HQ := Lib.hid (filt_yes HHV.out hqf)
          go_wp2_with (go_at_call 43; refine (HD.out _ v (HBX.out.below (by repeat (first | exact Below.refl _ _ | with_reducible apply bel_drew | with_reducible apply bel_drewN | with_reducible apply bel_alloc | (with_reducible refine bel_set ?_ (by first | omega | (simp <;> omega)) _) | (with_reducible refine bel_step ?_ (by assumption)) | (with_reducible refine bel_step ?_ (grown_none (by assumption))))))).mono ?_; rintro e w2 ⟨rfl, hb2⟩; rw [hqf]; have hzy := hb2.size; (try simp at hzy); obtain ⟨hcy, hfy⟩ := bcell hb2; have y0 : w2.cell? ⟨wr.heap.size, 0, none⟩ = some (.string v.f0) := (hcy _ _ (by first | omega | (simp <;> omega))).trans (by go_simp); have y1 : w2.cell? ⟨wr.heap.size, 1, none⟩ = some (.int .i64 v.f1) := (hcy _ _ (by first | omega | (simp <;> omega))).trans (by go_simp); have y2 : w2.cell? ⟨wr.heap.size, 2, none⟩ = some (.string v.f2) := (hcy _ _ (by first | omega | (simp <;> omega))).trans (by go_simp); have yt0 : wr.heap.size < w2.heap.size := (by omega); have yt1 : wr.heap.size < w2.heap.size + 1 := (by omega); clear hcy hfy; have x0 : w2.cell? ⟨g, i * 3, none⟩ = some (.string u.f0) := (((bcell hb2).1 _ _ (by first | omega | (simp <;> omega))).trans (by go_simp)); have x1 : w2.cell? ⟨g, i * 3 + 1, none⟩ = some (.int .i64 u.f1) := (((bcell hb2).1 _ _ (by first | omega | (simp <;> omega))).trans (by go_simp)); have x2 : w2.cell? ⟨g, i * 3 + 2, none⟩ = some (.string u.f2) := (((bcell hb2).1 _ _ (by first | omega | (simp <;> omega))).trans (by go_simp)); have xf : ∀ o, w2.frozen? ⟨g, o, none⟩ = false := fun o => (((bcell hb2).2 _ _ (by first | omega | (simp <;> omega))).trans (by go_simp)); have xg : g < w2.heap.size := (by omega))
          go_roundw
          case rel => exact ⟨i + 1, j + 1, zs.set i v, by omega, by omega, by go_num, by go_num, by rw [List.length_set, hzl], own_letter (HOZ.out.below (by repeat (first | exact Below.refl _ _ | with_reducible apply bel_drew | with_reducible apply bel_drewN | with_reducible apply bel_alloc | (with_reducible refine bel_set ?_ (by first | omega | (simp <;> omega)) _) | (with_reducible refine bel_step ?_ (by assumption)) | (with_reducible refine bel_step ?_ (grown_none (by assumption)))))) (by omega) v, ((HBZ.out.below (by repeat (first | exact Below.refl _ _ | with_reducible apply bel_drew | with_reducible apply bel_drewN | with_reducible apply bel_alloc | (with_reducible refine bel_set ?_ (by first | omega | (simp <;> omega)) _) | (with_reducible refine bel_step ?_ (by assumption)) | (with_reducible refine bel_step ?_ (grown_none (by assumption)))))).set _).set _ |>.set _, by rw [set_take (by omega), HTA.out, HQ.out], by rw [set_drop (by omega), ← List.drop_drop, ← List.drop_drop, HDR.out]⟩
          case measure => simp [intOf]; omega
      · obtain rfl : j = ls.length := by omega
        rw [List.take_length] at hta
        have hci : ¬ c = i := by omega
        have hci2 : ¬ c = 0 := by omega
        have gi : i < ls.length := by omega
        have hoz' := hoz
        rw [← hzl] at hoz'
        have hcl : ∀ ty, (Builtin.clear_ #[28] ty #[.slice (some ⟨g, i * 3, none⟩) (ls.length - i) (c - i)]).run Try.prog wr = .ok (.tuple #[]) (wr.setCells g (i * 3) (Builtin.zeroCells (Value.agg #[.string ⟨#[]⟩, .int .i64 0, .string ⟨#[]⟩]).cells (ls.length - i)).toList) := fun ty =>
          run_clear_L wr ty g (i * 3) (ls.length - i) (c - i) (by omega) (fun q hq => by
            have hlt : i * 3 + q < (flat dl zs).length := by rw [flat_length]; show i * 3 + q < zs.length * 3; omega
            have hc := World.ownsRow.cells hoz' (g := g) rfl (i * 3 + q) _ (List.getElem?_eq_getElem hlt)
            rw [Addr.add_lit] at hc
            rw [show i * 3 + q = 0 + (i * 3 + q) by omega, hc]; rfl) (fun q _ => World.ownsRow.frozenAt hoz' _)
        have hlen : (ls.filter (fun l => !f l)).length = i := by rw [← hta, List.length_take]; omega
        have HTA := Lib.hid hta
        have HLEN := Lib.hid hlen
        generalize (Builtin.zeroCells (Value.agg #[.string ⟨#[]⟩, .int .i64 0, .string ⟨#[]⟩]).cells (ls.length - i)).toList = VS at hcl
        have hgi : (i : Int) ≤ ls.length := by omega
        have hgc : (i : Int) ≤ c := by omega
        have hgn2 : i ≤ c := by omega
        clear hoz hbz hta hdr hlen hoz'
        go_wp2
        go_ret
        refine ⟨c, by rw [HLEN.out]; rfl, ?_, fun g' hg' => ?_⟩
        · rw [HLEN.out, ← HTA.out]
          exact own_behind VS (i * 3) (own_take HOZ.out (by omega)) (by rw [List.length_take]; omega)
        · obtain rfl := hg' g rfl
          exact ButB.of hb0 (HBZ.out.sets (i * 3) VS)
end Go.Proofs.Ytamkkpdhponhnaa.Nw
