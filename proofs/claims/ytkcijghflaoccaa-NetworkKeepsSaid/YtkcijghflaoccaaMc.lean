/- NetworkKeeps: the walk. -/
import Derived.Test.YtkcijghflaoccaaMa
import Derived.LoopTactic
import Derived.Deep.RegionHeld3
import Derived.Outline
namespace Go.Proofs.Ytkcijghflaoccaa.Nw
open Go.RowKit Go.Proofs.Ytkcijghflaoccaa.Ow Go.Proofs.Ytkcijghflaoccaa.PNetworkAll Go.Proofs.YtkcijghflaoccaaW.PrintWords
set_option linter.unusedVariables false
set_option linter.unusedSimpArgs false

attribute [local go_sem high] eqA39
/-- Neither forging nor repeating: a delay instead. -/
def tame (h : S34) : S34 := if h.f0 = 5 ∨ h.f0 = 3 then ⟨4, h.f1, h.f2, h.f3⟩ else h
def Tame (hs : List S34) : Prop := ∀ h ∈ hs, h.f0 = 1 ∨ h.f0 = 2 ∨ h.f0 = 4
theorem tame_kind {h : S34} (hk : 1 ≤ h.f0 ∧ h.f0 ≤ 5) : (tame h).f0 = 1 ∨ (tame h).f0 = 2 ∨ (tame h).f0 = 4 := by
  unfold tame
  split
  · right; right; rfl
  · omega
/-- How many are lost at one happening. -/
def lose (xs : List S39) (h : S34) : Nat := if (doR xs h).2.2 = 0 ∧ h.f0 = 2 then 1 else 0
/-- The packets, what was delivered, how many were lost. -/
def keepS (s : List S39 × List S39 × Nat) (h : S34) : List S39 × List S39 × Nat := ((doR s.1 h).1, s.2.1 ++ (doR s.1 h).2.1, s.2.2 + lose s.1 h)
def keepTo (xs : List S39) (hs : List S34) (k : Nat) : List S39 × List S39 × Nat := (hs.take k).foldl keepS (xs, [], 0)
theorem keepTo_succ {xs : List S39} {hs : List S34} {k : Nat} {h : S34} (hh : hs[k]? = some h) : keepTo xs hs (k + 1) = keepS (keepTo xs hs k) h := by
  obtain ⟨h1, h2⟩ := List.getElem?_eq_some_iff.1 hh
  unfold keepTo
  rw [List.take_succ_eq_append_getElem h1, List.foldl_append, h2]
  rfl
/-- What one happening does, up to order. -/
theorem cut_perm {xs : List S39} {k : Nat} {x : S39} (hx : xs[k]? = some x) : (x :: cut xs k).Perm xs := by
  obtain ⟨h1, h2⟩ := List.getElem?_eq_some_iff.1 hx
  have e : xs = xs.take k ++ x :: xs.drop (k + 1) := by rw [← h2, ← List.drop_eq_getElem_cons h1, List.take_append_drop]
  unfold cut
  conv => rhs; rw [e]
  exact List.perm_middle.symm
theorem doR_keeps {xs : List S39} {h : S34} (hk : h.f0 = 1 ∨ h.f0 = 2 ∨ h.f0 = 4) : ∃ gone : List S39, gone.length = lose xs h ∧ ((doR xs h).2.1 ++ (doR xs h).1 ++ gone).Perm xs := by
  by_cases h0 : xs.length = 0
  · have e : doR xs h = (xs, [], 5) := by unfold doR; rw [if_neg (by omega), if_pos h0]
    refine ⟨[], by unfold lose; rw [e]; simp, by rw [e]; simp⟩
  · obtain ⟨f1, f2, f3⟩ := spot_at (h := h) h0
    generalize hs : spot xs h = k at f1 f2 f3
    generalize hx : xs.getD k z39 = x at f3
    have hp := cut_perm f3
    rcases hk with hk | hk | hk
    · have e : doR xs h = (cut xs k, [x], 0) := by
        unfold doR; rw [if_neg (by omega), if_neg h0]; dsimp only; rw [if_pos hk, hs, hx]
      refine ⟨[], by unfold lose; rw [e, hk]; simp, ?_⟩
      rw [e, List.append_nil]
      exact hp
    · have e : doR xs h = (cut xs k, [], 0) := by
        unfold doR; rw [if_neg (by omega), if_neg h0]; dsimp only; rw [if_neg (by omega), if_pos hk, hs]
      refine ⟨[x], by unfold lose; rw [e, hk]; simp, ?_⟩
      rw [e, List.nil_append]
      exact (List.perm_append_comm (l₁ := cut xs k) (l₂ := [x])).trans hp
    · have e : doR xs h = (cut xs k ++ [x], [], 0) := by
        unfold doR; rw [if_neg (by omega), if_neg h0]; dsimp only; rw [if_neg (by omega), if_neg (by omega), if_neg (by omega), if_pos hk, hs, hx]
      refine ⟨[], by unfold lose; rw [e, hk]; simp, ?_⟩
      rw [e, List.nil_append, List.append_nil]
      exact (List.perm_append_comm (l₁ := cut xs k) (l₂ := [x])).trans hp
/-- Without forging and repeating: what is delivered, what is on its way, and what was lost is what was sent. -/
theorem keep_perm (xs : List S39) (hs : List S34) (ht : Tame hs) : ∃ gone : List S39, gone.length = (hs.foldl keepS (xs, [], 0)).2.2 ∧ ((hs.foldl keepS (xs, [], 0)).2.1 ++ (hs.foldl keepS (xs, [], 0)).1 ++ gone).Perm xs := by
  suffices h : ∀ (s : List S39 × List S39 × Nat) (g : List S39), g.length = s.2.2 → (s.2.1 ++ s.1 ++ g).Perm xs → ∃ gone : List S39, gone.length = (hs.foldl keepS s).2.2 ∧ ((hs.foldl keepS s).2.1 ++ (hs.foldl keepS s).1 ++ gone).Perm xs from h (xs, [], 0) [] rfl (by simp)
  induction hs with
  | nil => intro s g h1 h2; exact ⟨g, h1, h2⟩
  | cons h hs ih =>
    intro s g h1 h2
    obtain ⟨g1, e1, e2⟩ := doR_keeps (xs := s.1) (ht h List.mem_cons_self)
    rw [List.foldl_cons]
    refine ih (fun x hx => ht x (List.mem_cons_of_mem _ hx)) (keepS s h) (g1 ++ g) ?_ ?_
    · show (g1 ++ g).length = s.2.2 + lose s.1 h
      rw [List.length_append, e1, h1]; omega
    · show (s.2.1 ++ (doR s.1 h).2.1 ++ (doR s.1 h).1 ++ (g1 ++ g)).Perm xs
      refine List.Perm.trans ?_ h2
      have e3 : (s.2.1 ++ ((doR s.1 h).2.1 ++ (doR s.1 h).1 ++ g1) ++ g).Perm (s.2.1 ++ s.1 ++ g) := (e2.append_left s.2.1).append_right g
      refine List.Perm.trans ?_ e3
      simp [List.append_assoc]
/-- The lengths add up. -/
theorem keep_sum (xs : List S39) (hs : List S34) (ht : Tame hs) : (hs.foldl keepS (xs, [], 0)).1.length + (hs.foldl keepS (xs, [], 0)).2.1.length + (hs.foldl keepS (xs, [], 0)).2.2 = xs.length := by
  obtain ⟨g, h1, h2⟩ := keep_perm xs hs ht
  have := h2.length_eq
  simp only [List.length_append] at this
  omega
/-- One packet taken out of the rest: the last place at which it stands. -/
theorem take_one {rest l : List S39} {x : S39} {gone : List S39} (h : (x :: l ++ gone).Perm rest) {k : Nat} (hk : rest[k]? = some x) : (l ++ gone).Perm (cut rest k) := by
  have h1 := cut_perm hk
  have h2 : (x :: (l ++ gone)).Perm (x :: cut rest k) := h.trans h1.symm
  exact (List.perm_cons x).1 h2
theorem mem_rest {rest l : List S39} {x : S39} {gone : List S39} (h : (x :: l ++ gone).Perm rest) : x ∈ rest := h.subset (List.mem_append_left _ List.mem_cons_self)

set_option maxRecDepth 20000 in
set_option maxHeartbeats 1000000 in
theorem keeps_long (A : Option Addr) (c : Nat) (l : List Int)  (w : World) (hr : Kd.C (Kd.int .i64) w A l.length l) (hc : l.length ≤ c) (hl : ¬ l.length ≤ 500) :
    Calls Try.prog 3 #[.slice A l.length c] w fun e w' => e = .returned (.bool true) ∧ Below w.heap.size w w' := by
  have hd : decide ((l.length : Int) ≤ 500) = false := decide_eq_false (by omega)
  have HR := Lib.hid hr
  clear hr
  go_enter Try.func3, Try.ntmps3
  go_wp2_with (first | (go_at_call 7; refine (light_any A c l _ (Kd.C_below HR.out (by repeat (first | exact Below.refl _ _ | with_reducible apply bel_drew | with_reducible apply bel_drewN | with_reducible apply bel_alloc | (with_reducible refine bel_set ?_ (by first | omega | (simp <;> omega)) _) | (with_reducible refine bel_step ?_ (by assumption)) | (with_reducible refine bel_step ?_ (grown_none (by assumption)))))) hc).mono ?_; rintro e w1 ⟨rfl, hb1⟩) | (go_at_call 8; refine (awake_any _).mono ?_; rintro e w2 ⟨rfl, hb2⟩))
  go_ret
  exact ⟨rfl, (by repeat (first | exact Below.refl _ _ | with_reducible apply bel_drew | with_reducible apply bel_drewN | with_reducible apply bel_alloc | (with_reducible refine bel_set ?_ (by first | omega | (simp <;> omega)) _) | (with_reducible refine bel_step ?_ (by assumption)) | (with_reducible refine bel_step ?_ (grown_none (by assumption)))))⟩

theorem rd_lit34 {w : World} {b : Nat} (x : S34) (hb : b < w.heap.size) (h0 : w.cell? ⟨b, 0, none⟩ = some (.int .i64 x.f0)) (h1 : w.cell? ⟨b, 1, none⟩ = some (.int .i64 x.f1)) (h2 : w.cell? ⟨b, 2, none⟩ = some (.int .i64 x.f2)) (h3 : w.cell? ⟨b, 3, none⟩ = some (.int .i64 x.f3)) :
    Rd dh w (.slice (some ⟨b, 0, none⟩) 1 1) [x] := by
  refine Or.inr ⟨b, 0, 1, rfl, Nat.le_refl _, by unfold maxLen; omega, hb, fun j u hj => ?_⟩
  match j, hj with
  | 0, hj => simp [flat, dh] at hj; subst hj; exact h0
  | 1, hj => simp [flat, dh] at hj; subst hj; exact h1
  | 2, hj => simp [flat, dh] at hj; subst hj; exact h2
  | 3, hj => simp [flat, dh] at hj; subst hj; exact h3
  | j + 4, hj => simp [flat, dh] at hj
/-- The happenings so far, tame. -/
def tameTo (hs : List S34) (n : Nat) : List S34 := (hs.take n).map tame
theorem tameTo_len {hs : List S34} {n : Nat} (h : n ≤ hs.length) : (tameTo hs n).length = n := by unfold tameTo; simp; omega
theorem tameTo_succ {hs : List S34} {n : Nat} {h : S34} (hh : hs[n]? = some h) : tameTo hs (n + 1) = tameTo hs n ++ [tame h] := by
  obtain ⟨h1, h2⟩ := List.getElem?_eq_some_iff.1 hh
  unfold tameTo
  rw [List.take_succ_eq_append_getElem h1, List.map_append, h2]
  rfl
theorem tameTo_tame {hs : List S34} (hk : Kinds hs) (n : Nat) : Tame (tameTo hs n) := fun h hh => by
  unfold tameTo at hh
  obtain ⟨x, hx, rfl⟩ := List.mem_map.1 hh
  exact tame_kind (hk x (List.mem_of_mem_take hx))
theorem keepTo_bd (xs : List S39) (hs : List S34) (k : Nat) (ht : Tame hs) (hb : Short xs) : (keepTo xs hs k).1.length + (keepTo xs hs k).2.1.length + (keepTo xs hs k).2.2 = xs.length ∧ Short (keepTo xs hs k).1 := by
  have ht' : Tame (hs.take k) := fun h hh => ht h (List.mem_of_mem_take hh)
  refine ⟨keep_sum xs (hs.take k) ht', fun x hx => ?_⟩
  obtain ⟨g, _, hp⟩ := keep_perm xs (hs.take k) ht'
  exact hb x (hp.subset (List.mem_append_left _ (List.mem_append_right _ hx)))
theorem bytes_list {a b : ByteArray} (h : a.toList = b.toList) : a = b := by
  rw [ByteArray.toList_eq, ByteArray.toList_eq] at h
  apply ByteArray.ext
  exact Array.toList_inj.1 h
theorem eq39_self (x : S39) : (x.f0 == x.f0 && (x.f1 == x.f1 && (x.f2.toList == x.f2.toList))) = true := by simp
theorem eq39_ne {x y : S39} (h : x ≠ y) : (x.f0 == y.f0 && (x.f1 == y.f1 && (x.f2.toList == y.f2.toList))) = false := by
  rw [Bool.eq_false_iff]
  intro e
  rw [Bool.and_eq_true, Bool.and_eq_true, beq_iff_eq, beq_iff_eq, beq_iff_eq] at e
  obtain ⟨a, b, c⟩ := e
  exact h (by cases x; cases y; simp only [S39.mk.injEq]; exact ⟨a, b, bytes_list c⟩)
/-- Where the last equal element stands, as far as has been looked. -/
def Scan (rs : List S39) (x : S39) (j : Nat) (a : Int) : Prop := (a = -1 ∧ x ∉ rs.take j) ∨ ∃ k, k < j ∧ a = (k : Nat) ∧ rs[k]? = some x
theorem Scan.hit {rs : List S39} {x : S39} {j : Nat} (h : rs[j]? = some x) : Scan rs x (j + 1) j := Or.inr ⟨j, by omega, rfl, h⟩
theorem Scan.miss {rs : List S39} {x r : S39} {j : Nat} {a : Int} (h : Scan rs x j a) (hr : rs[j]? = some r) (hne : r ≠ x) : Scan rs x (j + 1) a := by
  obtain ⟨h1, h2⟩ := List.getElem?_eq_some_iff.1 hr
  rcases h with ⟨ha, hm⟩ | ⟨k, hk, ha, hx⟩
  · refine Or.inl ⟨ha, ?_⟩
    rw [List.take_succ_eq_append_getElem h1, h2]
    intro hh
    rcases List.mem_append.1 hh with hh | hh
    · exact hm hh
    · exact hne (List.mem_singleton.1 hh).symm
  · exact Or.inr ⟨k, by omega, ha, hx⟩
theorem Scan.found {rs : List S39} {x : S39} {a : Int} (h : Scan rs x rs.length a) (hm : x ∈ rs) : ∃ k, k < rs.length ∧ a = (k : Nat) ∧ rs[k]? = some x := by
  rcases h with ⟨_, hn⟩ | h
  · exact absurd hm (by rwa [List.take_length] at hn)
  · exact h
theorem drop_at {α : Type} {qs : List α} {n : Nat} {x : α} (h : qs[n]? = some x) : qs.drop n = x :: qs.drop (n + 1) := by
  obtain ⟨h1, h2⟩ := List.getElem?_eq_some_iff.1 h
  rw [List.drop_eq_getElem_cons h1, h2]
theorem rd39_head {w : World} {A : Option Addr} {c k : Nat} {xs : List S39} (h : Rd dk w (.slice A xs.length c) xs) (hk : k ≤ xs.length) : Rd dk w (.slice A k c) (xs.take k) := by
  have h := h.sliced (lo := 0) (hi := k) (by omega) hk
  have e : (if c = 0 then A else A.map (fun x => x.add 0)) = A := by split <;> first | rfl | (cases A <;> simp [Addr.add_zero'])
  simp only [Go.sliced, Nat.zero_mul, Nat.sub_zero, List.drop_zero, e] at h
  exact h
theorem rd39_tail {w : World} {A : Option Addr} {c k : Nat} {xs : List S39} (h : Rd dk w (.slice A xs.length c) xs) (hk : k ≤ xs.length) : Rd dk w (.slice (if c = k then A else A.map (fun x => x.add (k * 3))) (xs.length - k) (c - k)) (xs.drop k) := by
  have h := h.sliced (lo := k) (hi := xs.length) hk (by omega)
  rw [List.take_length] at h
  exact h
def BoxI (w : World) (x : S39) (wr : World) : Prop := Below w.heap.size w wr ∧ w.heap.size < wr.heap.size ∧ wr.cell? ⟨w.heap.size, 0, none⟩ = some (.int .i64 x.f0) ∧ wr.cell? ⟨w.heap.size, 1, none⟩ = some (.int .i64 x.f1) ∧ wr.cell? ⟨w.heap.size, 2, none⟩ = some (.string x.f2)
theorem wp_seqK {P : Program} {s : Code} {Q' : Exit → Act → World → Prop} {a : Act} {w : World} (h : ∀ K : Act → World → Prop, (∀ a w, Q' .normal a w → K a w) → s.wp P (Exit.then K Q') a w) : s.wp P Q' a w := by
  refine wp_mono (h (fun a w => Q' .normal a w) (fun _ _ q => q)) ?_
  intro e a w hq
  cases e <;> exact hq
def RestI (U w : World) (rs : List S39) (v : Value) : Prop := ∃ A c, v = .slice A rs.length c ∧ Below U.heap.size U w ∧ Rd dk w (.slice A rs.length c) rs

def KeepI (w : World) (B : Nat) (p : Int) (xk acc : List S39) (v : Value) (wr : World) : Prop :=
  ∃ Ak ck Aa ca, v = .slice Aa acc.length ca ∧ Below w.heap.size w wr ∧ w.heap.size ≤ B ∧ B < wr.heap.size ∧
    wr.cell? ⟨B, 0, none⟩ = some (.int .i64 p) ∧ wr.cell? ⟨B, 1, none⟩ = some (.slice Ak xk.length ck) ∧ wr.frozen? ⟨B, 0, none⟩ = false ∧ wr.frozen? ⟨B, 1, none⟩ = false ∧
    Rd dk wr (.slice Ak xk.length ck) xk ∧
    Own dk 39 wr w.heap.size (.slice Aa acc.length ca) acc ∧ (∀ k, (Value.slice Aa acc.length ca).ownBlock = some k → k ≠ B ∧ k < wr.heap.size ∧ w.heap.size ≤ k)
def HapI (w : World) (ts : List S34) (v : Value) (wr : World) : Prop := ∃ A c, v = .slice A ts.length c ∧ Below w.heap.size w wr ∧ Own dh 34 wr w.heap.size (.slice A ts.length c) ts

set_option maxRecDepth 20000 in
set_option maxHeartbeats 16000000 in
theorem keeps_short (A : Option Addr) (c : Nat) (l : List Int) (w : World) (hr : Kd.C (Kd.int .i64) w A l.length l) (hc : l.length ≤ c) (hl : l.length ≤ 500) :
    Calls Try.prog 3 #[.slice A l.length c] w fun e w' => e = .returned (.bool true) ∧ Below w.heap.size w w' := by
  have hd : decide ((l.length : Int) ≤ 500) = true := decide_eq_true (by omega)
  have HR := Lib.hid hr
  clear hr
  obtain ⟨i0, hi, hz0, hs0, hz2⟩ := info_parts info39
  obtain ⟨i4, hi4, hz4', hs4, hz24⟩ := info_parts info34
  go_enter Try.func3, Try.ntmps3
  go_wp2_with (first | (go_at_call 7; refine (light_any A c l _ (Kd.C_below HR.out (by repeat (first | exact Below.refl _ _ | with_reducible apply bel_drew | with_reducible apply bel_drewN | with_reducible apply bel_alloc | (with_reducible refine bel_set ?_ (by first | omega | (simp <;> omega)) _) | (with_reducible refine bel_step ?_ (by assumption)) | (with_reducible refine bel_step ?_ (grown_none (by assumption)))))) hc).mono ?_; rintro e w1 ⟨rfl, hb1⟩) | (go_at_call 9; refine (roll_any A c l _ (Kd.C_below HR.out (by repeat (first | exact Below.refl _ _ | with_reducible apply bel_drew | with_reducible apply bel_drewN | with_reducible apply bel_alloc | (with_reducible refine bel_set ?_ (by first | omega | (simp <;> omega)) _) | (with_reducible refine bel_step ?_ (by assumption)) | (with_reducible refine bel_step ?_ (grown_none (by assumption)))))) hc hl).mono ?_; rintro e w2 ⟨g, rfl, hdi, hb2⟩) | fail)
  refine (packets_any g l 0 w1 w2 hdi).mono ?_
  rintro e w3 ⟨p, A1, cp, xs, j, rfl, ho, hdi3, hbut, hp1, hp3, hxl, hfit⟩
  have HSH := Lib.hid hfit.short
  have hgl := hdi.lt
  have hs13 := hb1.size
  have hs12 := hb2.size
  have hs23 := hbut.1
  have HB := Lib.hid ho.block
  have HO := Lib.hid ho
  have HDI := Lib.hid hdi3
  clear ho hdi hdi3 hfit hbut
  go_wp2_with fail
  refine (happen_any g l j w1 _ (HDI.out.step (by repeat (first | exact Below.refl _ _ | with_reducible apply bel_drew | with_reducible apply bel_drewN | with_reducible apply bel_alloc | (with_reducible refine bel_set ?_ (by first | omega | (simp <;> omega)) _) | (with_reducible refine bel_step ?_ (by assumption)) | (with_reducible refine bel_step ?_ (grown_none (by assumption))))))).mono ?_
  rintro e w4 ⟨Ah, ch, hs, j2, rfl, hoh, hdi4, hbut4, hhl, hkinds⟩
  have HW4 : Below w.heap.size w w4 := bel_step hb1 hdi4.2.2
  have hz4 := hbut4.1
  simp at hz4
  have k0 : w4.cell? ⟨w3.heap.size, 0, none⟩ = some (.int .i64 p) := ((hbut4.cell (by simp <;> omega) (by omega)).1 _).trans (by go_simp)
  have k1 : w4.cell? ⟨w3.heap.size, 1, none⟩ = some (.slice A1 xs.length cp) := ((hbut4.cell (by simp <;> omega) (by omega)).1 _).trans (by go_simp)
  have HX := Lib.hid (show Later w w4 A1 cp xs from later_of (own_but (own_still HO.out (by repeat (first | exact Below.refl _ _ | with_reducible apply bel_drew | with_reducible apply bel_drewN | with_reducible apply bel_alloc | (with_reducible refine bel_set ?_ (by first | omega | (simp <;> omega)) _) | (with_reducible refine bel_step ?_ (by assumption)) | (with_reducible refine bel_step ?_ (grown_none (by assumption)))))) hbut4 (fun k hk => by have := HB.out k hk; omega)) (by omega))
  have HH := Lib.hid (show LaterH w4 Ah ch hs from fun W hb => rd_step hoh.rd hb)
  have HK := Lib.hid hkinds
  have lt0 : w3.heap.size < w4.heap.size := by omega
  clear hdi4 hbut4 hoh hz4 HDI HO HB hkinds
  go_wp2_with fail
  go_loopw [6, 33] (fun v i wr => ∃ n : Nat, n ≤ hs.length ∧ i = .int .i64 n ∧ HapI w4 (tameTo hs n) v wr) (fun _ i _ => hs.length - (intOf i).toNat)
  case atStart => exact ⟨0, by omega, rfl, none, 0, rfl, Below.refl _ _, Own.nil _ _ _ _⟩
  case round =>
    obtain ⟨n, hn, rfl, hI⟩ := hrel
    by_cases hlt : n < hs.length
    · obtain ⟨h, hh⟩ : ∃ h, hs[n]? = some h := ⟨_, List.getElem?_eq_getElem hlt⟩
      have hnext := tameTo_succ hh
      have hln := tameTo_len (Nat.le_of_lt hlt)
      have HT : Hid (tame h = if h.f0 = 5 ∨ h.f0 = 3 then ⟨4, h.f1, h.f2, h.f3⟩ else h) := Lib.hid rfl
      have HNX := Lib.hid hnext
      obtain ⟨Aa, ca, rfl, hbw, hoA⟩ := hI
      generalize tameTo hs n = ts at hoA hln HNX ⊢
      obtain ⟨gh, oh, ch', he, hgc⟩ : ∃ gh oh ch', Ah = some ⟨gh, oh, none⟩ ∧ gh < wr.heap.size ∧ wr.cell? ⟨gh, oh + n * 4, none⟩ = some (.int .i64 h.f0) ∧ wr.cell? ⟨gh, oh + n * 4 + 1, none⟩ = some (.int .i64 h.f1) ∧ wr.cell? ⟨gh, oh + n * 4 + 2, none⟩ = some (.int .i64 h.f2) ∧ wr.cell? ⟨gh, oh + n * 4 + 3, none⟩ = some (.int .i64 h.f3) := by
        obtain ⟨gh, oh, he, hlt', hcx⟩ := (HH.out.rd hbw).at_ hh
        exact ⟨gh, oh, 0, he, hlt', hcx 0 _ rfl, hcx 1 _ rfl, hcx 2 _ rfl, hcx 3 _ rfl⟩
      subst he
      obtain ⟨gl0, gx0, gx1, gx2, gx3⟩ := hgc
      have gl1 : gh < wr.heap.size + 1 := by omega
      have HOA := Lib.hid hoA
      have hzr := hbw.size
      clear hoA hnext hh
      by_cases q5 : h.f0 = 5
      · have b5 : (h.f0 == 5) = true := by rw [q5]; rfl
        rw [if_pos (Or.inl q5)] at HT
        clear q5
        go_wp2_with (at_builtin; refine wpList_append_rd (d := dh) (v := .slice Aa ts.length ca) (y := .slice (some ⟨wr.heap.size + 1, 0, none⟩) 1 1) (xs := ts) (ys := [⟨4, h.f1, h.f2, h.f3⟩]) rfl _ _ 31 rfl 34 i4 _ 32 w4.heap.size Try.underlying31 hi4 hz4' hs4 hz24 rfl rfl (HOA.out.below (by repeat (first | exact Below.refl _ _ | with_reducible apply bel_drew | with_reducible apply bel_drewN | with_reducible apply bel_alloc | (with_reducible refine bel_set ?_ (by first | omega | (simp <;> omega)) _) | (with_reducible refine bel_step ?_ (by assumption)) | (with_reducible refine bel_step ?_ (grown_none (by assumption)))))) rfl (rd_lit34 _ (by first | omega | (simp <;> omega)) (by go_simp) (by go_simp) (by go_simp) (by go_simp)) (by simp <;> omega) (by unfold maxLen; simp <;> omega) (by first | omega | (simp <;> omega)) (ts.length + 1) (by simp) ?_; intro A3 c3 w5 ho3 hg3 hat3; have hb5 := bel_grown (W := w4) (bel_step hbw (by repeat (first | exact Below.refl _ _ | with_reducible apply bel_drew | with_reducible apply bel_drewN | with_reducible apply bel_alloc | (with_reducible refine bel_set ?_ (by first | omega | (simp <;> omega)) _) | (with_reducible refine bel_step ?_ (by assumption)) | (with_reducible refine bel_step ?_ (grown_none (by assumption)))))) hg3 (fun k hk => (HOA.out.block k hk).1); clear hat3 hg3; have HO3 := Lib.hid ho3; clear ho3)
        go_roundw
        case rel =>
          refine ⟨n + 1, by omega, by go_num, A3, c3, ?_, (by repeat (first | exact hb5 | exact Below.refl _ _ | with_reducible apply bel_drew | with_reducible apply bel_drewN | with_reducible apply bel_alloc | (with_reducible refine bel_set ?_ (by first | omega | (simp <;> omega)) _) | (with_reducible refine bel_step ?_ (by assumption)) | (with_reducible refine bel_step ?_ (grown_none (by assumption))))), ?_⟩
          · rw [HNX.out, List.length_append, hln]; rfl
          · rw [HNX.out, HT.out, List.length_append]; exact HO3.out
        case measure => simp [intOf]; omega
      · have b5 : (h.f0 == 5) = false := beq_eq_false_iff_ne.2 q5
        by_cases q3 : h.f0 = 3
        · have b3 : (h.f0 == 3) = true := by rw [q3]; rfl
          rw [if_pos (Or.inr q3)] at HT
          clear q3 q5
          go_wp2_with (at_builtin; refine wpList_append_rd (d := dh) (v := .slice Aa ts.length ca) (y := .slice (some ⟨wr.heap.size + 1, 0, none⟩) 1 1) (xs := ts) (ys := [⟨4, h.f1, h.f2, h.f3⟩]) rfl _ _ 31 rfl 34 i4 _ 32 w4.heap.size Try.underlying31 hi4 hz4' hs4 hz24 rfl rfl (HOA.out.below (by repeat (first | exact Below.refl _ _ | with_reducible apply bel_drew | with_reducible apply bel_drewN | with_reducible apply bel_alloc | (with_reducible refine bel_set ?_ (by first | omega | (simp <;> omega)) _) | (with_reducible refine bel_step ?_ (by assumption)) | (with_reducible refine bel_step ?_ (grown_none (by assumption)))))) rfl (rd_lit34 _ (by first | omega | (simp <;> omega)) (by go_simp) (by go_simp) (by go_simp) (by go_simp)) (by simp <;> omega) (by unfold maxLen; simp <;> omega) (by first | omega | (simp <;> omega)) (ts.length + 1) (by simp) ?_; intro A3 c3 w5 ho3 hg3 hat3; have hb5 := bel_grown (W := w4) (bel_step hbw (by repeat (first | exact Below.refl _ _ | with_reducible apply bel_drew | with_reducible apply bel_drewN | with_reducible apply bel_alloc | (with_reducible refine bel_set ?_ (by first | omega | (simp <;> omega)) _) | (with_reducible refine bel_step ?_ (by assumption)) | (with_reducible refine bel_step ?_ (grown_none (by assumption)))))) hg3 (fun k hk => (HOA.out.block k hk).1); clear hat3 hg3; have HO3 := Lib.hid ho3; clear ho3)
          go_roundw
          case rel =>
            refine ⟨n + 1, by omega, by go_num, A3, c3, ?_, (by repeat (first | exact hb5 | exact Below.refl _ _ | with_reducible apply bel_drew | with_reducible apply bel_drewN | with_reducible apply bel_alloc | (with_reducible refine bel_set ?_ (by first | omega | (simp <;> omega)) _) | (with_reducible refine bel_step ?_ (by assumption)) | (with_reducible refine bel_step ?_ (grown_none (by assumption))))), ?_⟩
            · rw [HNX.out, List.length_append, hln]; rfl
            · rw [HNX.out, HT.out, List.length_append]; exact HO3.out
          case measure => simp [intOf]; omega
        · have b3 : (h.f0 == 3) = false := beq_eq_false_iff_ne.2 q3
          rw [if_neg (by omega)] at HT
          clear q3 q5
          go_wp2_with (at_builtin; refine wpList_append_rd (d := dh) (v := .slice Aa ts.length ca) (y := .slice (some ⟨wr.heap.size + 1, 0, none⟩) 1 1) (xs := ts) (ys := [h]) rfl _ _ 31 rfl 34 i4 _ 32 w4.heap.size Try.underlying31 hi4 hz4' hs4 hz24 rfl rfl (HOA.out.below (by repeat (first | exact Below.refl _ _ | with_reducible apply bel_drew | with_reducible apply bel_drewN | with_reducible apply bel_alloc | (with_reducible refine bel_set ?_ (by first | omega | (simp <;> omega)) _) | (with_reducible refine bel_step ?_ (by assumption)) | (with_reducible refine bel_step ?_ (grown_none (by assumption)))))) rfl (rd_lit34 _ (by first | omega | (simp <;> omega)) (by go_simp) (by go_simp) (by go_simp) (by go_simp)) (by simp <;> omega) (by unfold maxLen; simp <;> omega) (by first | omega | (simp <;> omega)) (ts.length + 1) (by simp) ?_; intro A3 c3 w5 ho3 hg3 hat3; have hb5 := bel_grown (W := w4) (bel_step hbw (by repeat (first | exact Below.refl _ _ | with_reducible apply bel_drew | with_reducible apply bel_drewN | with_reducible apply bel_alloc | (with_reducible refine bel_set ?_ (by first | omega | (simp <;> omega)) _) | (with_reducible refine bel_step ?_ (by assumption)) | (with_reducible refine bel_step ?_ (grown_none (by assumption)))))) hg3 (fun k hk => (HOA.out.block k hk).1); clear hat3 hg3; have HO3 := Lib.hid ho3; clear ho3)
          go_roundw
          case rel =>
            refine ⟨n + 1, by omega, by go_num, A3, c3, ?_, (by repeat (first | exact hb5 | exact Below.refl _ _ | with_reducible apply bel_drew | with_reducible apply bel_drewN | with_reducible apply bel_alloc | (with_reducible refine bel_set ?_ (by first | omega | (simp <;> omega)) _) | (with_reducible refine bel_step ?_ (by assumption)) | (with_reducible refine bel_step ?_ (grown_none (by assumption))))), ?_⟩
            · rw [HNX.out, List.length_append, hln]; rfl
            · rw [HNX.out, HT.out, List.length_append]; exact HO3.out
          case measure => simp [intOf]; omega
    · obtain rfl : n = hs.length := by omega
      have htm := tameTo_tame HK.out hs.length
      have hln := tameTo_len (Nat.le_refl hs.length)
      generalize tameTo hs hs.length = ts at hI htm hln
      obtain ⟨At', ct, rfl, hbw, hoT⟩ := hI
      have HT := Lib.hid (fun (W : World) (hb : Below wr.heap.size wr W) => (show Rd dh W (.slice At' ts.length ct) ts from hoT.rd.below hb))
      have HTM := Lib.hid htm
      obtain ⟨V, hV⟩ : ∃ V, V = wr := ⟨_, rfl⟩
      subst hV
      obtain ⟨hcr, hfr⟩ := bcell hbw
      have m0 := (hcr _ 0 lt0).trans k0
      have m1 := (hcr _ 1 lt0).trans k1
      have hzr := hbw.size
      have lt1 : w3.heap.size < V.heap.size := by omega
      have lt2 : w3.heap.size < V.heap.size + 1 := by omega
      have HXR := Lib.hid (HX.out.rd hbw)
      have hl8 : ts.length ≤ 8 := by omega
      clear hcr hfr htm hoT k0 k1 lt0 hn hlt hln
      go_wp2_with fail
      have start : KeepI V V.heap.size p (keepTo xs ts 0).1 (keepTo xs ts 0).2.1 (.slice none 0 0) (V.alloc (.cells #[.int .i64 p, .slice A1 xs.length cp] 29)) := by
        have e0 : keepTo xs ts 0 = (xs, [], 0) := rfl
        rw [e0]
        exact ⟨A1, cp, none, 0, rfl, (by repeat (first | exact Below.refl _ _ | with_reducible apply bel_drew | with_reducible apply bel_drewN | with_reducible apply bel_alloc | (with_reducible refine bel_set ?_ (by first | omega | (simp <;> omega)) _) | (with_reducible refine bel_step ?_ (by assumption)) | (with_reducible refine bel_step ?_ (grown_none (by assumption))))), Nat.le_refl _, by simp, by go_simp, by go_simp, by go_simp, by go_simp, HXR.out.below (by repeat (first | exact Below.refl _ _ | with_reducible apply bel_drew | with_reducible apply bel_drewN | with_reducible apply bel_alloc | (with_reducible refine bel_set ?_ (by first | omega | (simp <;> omega)) _) | (with_reducible refine bel_step ?_ (by assumption)) | (with_reducible refine bel_step ?_ (grown_none (by assumption))))), Own.nil _ _ _ _, fun k hk => by simp [Value.ownBlock] at hk⟩
      go_loopw [5, 10, 54] (fun l v i wr => ∃ n : Nat, n ≤ ts.length ∧ i = .int .i64 n ∧ l = .int .i64 ((keepTo xs ts n).2.2 : Nat) ∧ KeepI V V.heap.size p (keepTo xs ts n).1 (keepTo xs ts n).2.1 v wr) (fun _ _ i _ => ts.length - (intOf i).toNat)
      case atStart => exact ⟨0, by omega, rfl, rfl, start⟩
      case round =>
        obtain ⟨n, hn, rfl, rfl, hI⟩ := hrel
        clear start
        have bd := keepTo_bd xs ts n HTM.out HSH.out
        by_cases hlt : n < ts.length
        · obtain ⟨h, hh⟩ : ∃ h, ts[n]? = some h := ⟨_, List.getElem?_eq_getElem hlt⟩
          have hnext := keepTo_succ (xs := xs) hh
          generalize keepTo xs ts n = s at hI bd hnext ⊢
          obtain ⟨xk, acc, lost⟩ := s
          dsimp only at hI bd ⊢
          obtain ⟨Ak, ck, Aa, ca, rfl, hbx, hB0, hB1, r0, r1, rf0, rf1, hrN, hoA, hobA⟩ := hI
          obtain ⟨gh, oh, he, hgc⟩ : ∃ gh oh, At' = some ⟨gh, oh, none⟩ ∧ gh < wr.heap.size ∧ wr.cell? ⟨gh, oh + n * 4, none⟩ = some (.int .i64 h.f0) ∧ wr.cell? ⟨gh, oh + n * 4 + 1, none⟩ = some (.int .i64 h.f1) ∧ wr.cell? ⟨gh, oh + n * 4 + 2, none⟩ = some (.int .i64 h.f2) ∧ wr.cell? ⟨gh, oh + n * 4 + 3, none⟩ = some (.int .i64 h.f3) := by
            obtain ⟨gh, oh, he, hlt', hcx⟩ := (HT.out wr hbx).at_ hh
            exact ⟨gh, oh, he, hlt', hcx 0 _ rfl, hcx 1 _ rfl, hcx 2 _ rfl, hcx 3 _ rfl⟩
          subst he
          obtain ⟨gl0, gx0, gx1, gx2, gx3⟩ := hgc
          have gl1 : gh < wr.heap.size + 1 := by omega
          have gl2 : V.heap.size < wr.heap.size + 1 := by omega
          have HRN := Lib.hid hrN
          have HOA := Lib.hid hoA
          have HBA := Lib.hid hobA
          have HSX := Lib.hid bd.2
          have bd1 := bd.1
          have rl := doR_len xk h
          have HL : Hid (keepTo xs ts (n + 1) = ((doR xk h).1, acc ++ (doR xk h).2.1, lost + lose xk h)) := Lib.hid (show keepTo xs ts (n + 1) = ((doR xk h).1, acc ++ (doR xk h).2.1, lost + lose xk h) from hnext)
          have hlo : lose xk h = if (doR xk h).2.2 = 0 ∧ h.f0 = 2 then 1 else 0 := rfl
          generalize lose xk h = lo at HL hlo
          have HLO := Lib.hid hlo
          clear hnext hh hrN hoA hobA bd hlo
          go_wp2_with fail
          refine (do_any p Ak xk.length ck xk h _ (HRN.out.below (by repeat (first | exact Below.refl _ _ | with_reducible apply bel_drew | with_reducible apply bel_drewN | with_reducible apply bel_alloc | (with_reducible refine bel_set ?_ (by first | omega | (simp <;> omega)) _) | (with_reducible refine bel_step ?_ (by assumption)) | (with_reducible refine bel_step ?_ (grown_none (by assumption)))))) (by omega) HSX.out).mono ?_
          rintro e w2 ⟨Ad, cd, Ap, cpp, rfl, hod, hrp, hbp, hb2⟩
          generalize doR xk h = r at rl hod hrp hbp HL HLO ⊢
          have rl1 := rl.1
          have rl2 := rl.2
          have hzc := hb2.size
          try simp at hzc
          obtain ⟨hc2, hf2⟩ := bcell hb2
          have y0 : w2.cell? ⟨V.heap.size, 0, none⟩ = some (.int .i64 p) := (hc2 _ _ (by first | omega | (simp <;> omega))).trans (by go_simp)
          have yf0 : w2.frozen? ⟨V.heap.size, 0, none⟩ = false := (hf2 _ _ (by first | omega | (simp <;> omega))).trans (by go_simp)
          have y1 : w2.cell? ⟨V.heap.size, 1, none⟩ = some (.slice Ak xk.length ck) := (hc2 _ _ (by first | omega | (simp <;> omega))).trans (by go_simp)
          have yf1 : w2.frozen? ⟨V.heap.size, 1, none⟩ = false := (hf2 _ _ (by first | omega | (simp <;> omega))).trans (by go_simp)
          have y2 : w2.cell? ⟨wr.heap.size, 0, none⟩ = some (.int .i64 h.f0) := (hc2 _ _ (by first | omega | (simp <;> omega))).trans (by go_simp)
          have yf2 : w2.frozen? ⟨wr.heap.size, 0, none⟩ = false := (hf2 _ _ (by first | omega | (simp <;> omega))).trans (by go_simp)
          have yt0 : V.heap.size < w2.heap.size := (by omega)
          have yt1 : V.heap.size < w2.heap.size + 1 := (by omega)
          have yt2 : wr.heap.size < w2.heap.size := (by omega)
          have yt3 : wr.heap.size < w2.heap.size + 1 := (by omega)
          clear hc2 hf2 rl
          have HBD := Lib.hid (fun k' (hk' : (Value.slice Ad r.1.length cd).ownBlock = some k') => (show wr.heap.size + 1 ≤ k' ∧ k' < w2.heap.size by have := hod.block k' hk'; (try simp at this); omega))
          have hzx := hbx.size
          have HOD := Lib.hid (hod.lower (B' := V.heap.size) (by simp <;> omega))
          have HRP := Lib.hid hrp
          clear hod hrp hbp
          by_cases z0 : r.2.2 = 0
          · have bz : (r.2.2 == 0) = true := by rw [z0]; rfl
            by_cases y2 : h.f0 = 2
            · have by2 : (h.f0 == 2) = true := by rw [y2]; rfl
              rw [if_pos ⟨z0, y2⟩] at HLO
              clear z0 y2
              go_wp2_with fail
              go_region_law (refine step_append_rd (d := dk) (v := .slice Aa acc.length ca) (y := .slice Ap r.2.1.length cpp) (xs := acc) (ys := r.2.1) rfl (.tmp 75) (.tmp 76) 27 rfl 39 i0 _ 32 V.heap.size Try.underlying27 hi hz0 hs0 hz2 rfl rfl (own_still HOA.out (by repeat (first | exact Below.refl _ _ | with_reducible apply bel_drew | with_reducible apply bel_drewN | with_reducible apply bel_alloc | (with_reducible refine bel_set ?_ (by first | omega | (simp <;> omega)) _) | (with_reducible refine bel_step ?_ (by assumption)) | (with_reducible refine bel_step ?_ (grown_none (by assumption)))))) rfl (rd_step HRP.out (by repeat (first | exact Below.refl _ _ | with_reducible apply bel_drew | with_reducible apply bel_drewN | with_reducible apply bel_alloc | (with_reducible refine bel_set ?_ (by first | omega | (simp <;> omega)) _) | (with_reducible refine bel_step ?_ (by assumption)) | (with_reducible refine bel_step ?_ (grown_none (by assumption)))))) (by omega) (by unfold maxLen; omega) (by first | omega | (simp <;> omega)) (acc.length + r.2.1.length) (by simp) ?_; intro A3 c3 w3' ho3 hg3 hat3; have hzz := hg3.size; (try simp at hzz); have q0 : w3'.cell? ⟨V.heap.size, 0, none⟩ = some (.int .i64 p) := ((grown_cell hg3 (by first | omega | (simp <;> omega)) (fun e => by have := HBA.out _ e; first | omega | (simp at this <;> omega))).1 _).trans (by go_simp); have qf0 : w3'.frozen? ⟨V.heap.size, 0, none⟩ = false := ((grown_cell hg3 (by first | omega | (simp <;> omega)) (fun e => by have := HBA.out _ e; first | omega | (simp at this <;> omega))).2 _).trans (by go_simp); have q1 : w3'.cell? ⟨V.heap.size, 1, none⟩ = some (.slice Ak xk.length ck) := ((grown_cell hg3 (by first | omega | (simp <;> omega)) (fun e => by have := HBA.out _ e; first | omega | (simp at this <;> omega))).1 _).trans (by go_simp); have qf1 : w3'.frozen? ⟨V.heap.size, 1, none⟩ = false := ((grown_cell hg3 (by first | omega | (simp <;> omega)) (fun e => by have := HBA.out _ e; first | omega | (simp at this <;> omega))).2 _).trans (by go_simp); have q2 : w3'.cell? ⟨w2.heap.size, 0, none⟩ = some (.int .i64 p) := ((grown_cell hg3 (by first | omega | (simp <;> omega)) (fun e => by have := HBA.out _ e; first | omega | (simp at this <;> omega))).1 _).trans (by go_simp); have qf2 : w3'.frozen? ⟨w2.heap.size, 0, none⟩ = false := ((grown_cell hg3 (by first | omega | (simp <;> omega)) (fun e => by have := HBA.out _ e; first | omega | (simp at this <;> omega))).2 _).trans (by go_simp); have q3 : w3'.cell? ⟨w2.heap.size, 1, none⟩ = some (.slice Ad r.1.length cd) := ((grown_cell hg3 (by first | omega | (simp <;> omega)) (fun e => by have := HBA.out _ e; first | omega | (simp at this <;> omega))).1 _).trans (by go_simp); have qf3 : w3'.frozen? ⟨w2.heap.size, 1, none⟩ = false := ((grown_cell hg3 (by first | omega | (simp <;> omega)) (fun e => by have := HBA.out _ e; first | omega | (simp at this <;> omega))).2 _).trans (by go_simp); have qt0 : V.heap.size < w3'.heap.size := (by omega); have qt1 : V.heap.size < w3'.heap.size + 1 := (by omega); have qt2 : w2.heap.size < w3'.heap.size := (by omega); have qt3 : w2.heap.size < w3'.heap.size + 1 := (by omega); have HB3 := Lib.hid (show ∀ k', (Value.slice A3 (acc.length + r.2.1.length) c3).ownBlock = some k' → (k' ≠ V.heap.size ∧ V.heap.size ≤ k' ∧ k' < w3'.heap.size) from fun k' hk' => ⟨(block_at hat3 (fun k' => k' ≠ V.heap.size ∧ V.heap.size ≤ k') (fun k' hk' => by have := HBA.out k' hk'; omega) (by first | omega | (simp <;> omega)) k' hk').1, (block_at hat3 (fun k' => k' ≠ V.heap.size ∧ V.heap.size ≤ k') (fun k' hk' => by have := HBA.out k' hk'; omega) (by first | omega | (simp <;> omega)) k' hk').2, (ho3.block k' hk').2⟩); have HO3 := Lib.hid ho3; have HOD3 := Lib.hid (show Own dk 39 w3' V.heap.size (.slice Ad r.1.length cd) r.1 from own_past (own_still HOD.out (by repeat (first | exact Below.refl _ _ | with_reducible apply bel_drew | with_reducible apply bel_drewN | with_reducible apply bel_alloc | (with_reducible refine bel_set ?_ (by first | omega | (simp <;> omega)) _) | (with_reducible refine bel_step ?_ (by assumption)) | (with_reducible refine bel_step ?_ (grown_none (by assumption)))))) hg3 (fun k' hk' e => by have := HBA.out k' e; have := HBD.out k' hk'; omega)); have hb3 := bel_grown (W := V) (bel_step hbx (by repeat (first | exact Below.refl _ _ | with_reducible apply bel_drew | with_reducible apply bel_drewN | with_reducible apply bel_alloc | (with_reducible refine bel_set ?_ (by first | omega | (simp <;> omega)) _) | (with_reducible refine bel_step ?_ (by assumption)) | (with_reducible refine bel_step ?_ (grown_none (by assumption)))))) hg3 (fun k' hk' => by have := HBA.out k' hk'; omega); clear hat3 ho3 hg3)
              all_goals
                go_wp2
                go_roundw
                case rel =>
                  refine ⟨n + 1, by omega, by go_num, ?_, ?_⟩
                  · rw [HL.out, HLO.out]; simp; done
                  · rw [HL.out]
                    refine ⟨Ad, cd, A3, c3, by rw [List.length_append], (by repeat (first | exact Below.refl _ _ | with_reducible apply bel_drew | with_reducible apply bel_drewN | with_reducible apply bel_alloc | (with_reducible refine bel_set ?_ (by first | omega | (simp <;> omega)) _) | (with_reducible refine bel_step ?_ (by assumption)) | (with_reducible refine bel_step ?_ (grown_none (by assumption))))), Nat.le_refl _, (by first | omega | (simp <;> omega)), by go_simp, by go_simp, by go_simp, by go_simp, (Own.rd (e := 39) (B := V.heap.size) (by (repeat (first | (with_reducible refine Own.setCell ?_ (fun k hk => by have := HBD.out k hk; simp <;> omega) _) | (with_reducible refine own_alloc ?_ _) | (with_reducible refine own_drew ?_) | (with_reducible refine own_drewN ?_ _))); exact HOD3.out)), ?_, fun k' hk' => ?_⟩
                    · rw [List.length_append]; exact (by (repeat (first | (with_reducible refine Own.setCell ?_ (fun k hk => by have := HB3.out k hk; simp <;> omega) _) | (with_reducible refine own_alloc ?_ _) | (with_reducible refine own_drew ?_) | (with_reducible refine own_drewN ?_ _))); exact HO3.out)
                    · rw [List.length_append] at hk'; have := HB3.out k' hk'; first | omega | (simp <;> omega)
                case measure => simp [intOf]; omega
            · have by2 : (h.f0 == 2) = false := beq_eq_false_iff_ne.2 y2
              rw [if_neg (fun q => y2 q.2)] at HLO
              clear z0 y2
              go_wp2_with fail
              go_region_law (refine step_append_rd (d := dk) (v := .slice Aa acc.length ca) (y := .slice Ap r.2.1.length cpp) (xs := acc) (ys := r.2.1) rfl (.tmp 75) (.tmp 76) 27 rfl 39 i0 _ 32 V.heap.size Try.underlying27 hi hz0 hs0 hz2 rfl rfl (own_still HOA.out (by repeat (first | exact Below.refl _ _ | with_reducible apply bel_drew | with_reducible apply bel_drewN | with_reducible apply bel_alloc | (with_reducible refine bel_set ?_ (by first | omega | (simp <;> omega)) _) | (with_reducible refine bel_step ?_ (by assumption)) | (with_reducible refine bel_step ?_ (grown_none (by assumption)))))) rfl (rd_step HRP.out (by repeat (first | exact Below.refl _ _ | with_reducible apply bel_drew | with_reducible apply bel_drewN | with_reducible apply bel_alloc | (with_reducible refine bel_set ?_ (by first | omega | (simp <;> omega)) _) | (with_reducible refine bel_step ?_ (by assumption)) | (with_reducible refine bel_step ?_ (grown_none (by assumption)))))) (by omega) (by unfold maxLen; omega) (by first | omega | (simp <;> omega)) (acc.length + r.2.1.length) (by simp) ?_; intro A3 c3 w3' ho3 hg3 hat3; have hzz := hg3.size; (try simp at hzz); have q0 : w3'.cell? ⟨V.heap.size, 0, none⟩ = some (.int .i64 p) := ((grown_cell hg3 (by first | omega | (simp <;> omega)) (fun e => by have := HBA.out _ e; first | omega | (simp at this <;> omega))).1 _).trans (by go_simp); have qf0 : w3'.frozen? ⟨V.heap.size, 0, none⟩ = false := ((grown_cell hg3 (by first | omega | (simp <;> omega)) (fun e => by have := HBA.out _ e; first | omega | (simp at this <;> omega))).2 _).trans (by go_simp); have q1 : w3'.cell? ⟨V.heap.size, 1, none⟩ = some (.slice Ak xk.length ck) := ((grown_cell hg3 (by first | omega | (simp <;> omega)) (fun e => by have := HBA.out _ e; first | omega | (simp at this <;> omega))).1 _).trans (by go_simp); have qf1 : w3'.frozen? ⟨V.heap.size, 1, none⟩ = false := ((grown_cell hg3 (by first | omega | (simp <;> omega)) (fun e => by have := HBA.out _ e; first | omega | (simp at this <;> omega))).2 _).trans (by go_simp); have q2 : w3'.cell? ⟨w2.heap.size, 0, none⟩ = some (.int .i64 p) := ((grown_cell hg3 (by first | omega | (simp <;> omega)) (fun e => by have := HBA.out _ e; first | omega | (simp at this <;> omega))).1 _).trans (by go_simp); have qf2 : w3'.frozen? ⟨w2.heap.size, 0, none⟩ = false := ((grown_cell hg3 (by first | omega | (simp <;> omega)) (fun e => by have := HBA.out _ e; first | omega | (simp at this <;> omega))).2 _).trans (by go_simp); have q3 : w3'.cell? ⟨w2.heap.size, 1, none⟩ = some (.slice Ad r.1.length cd) := ((grown_cell hg3 (by first | omega | (simp <;> omega)) (fun e => by have := HBA.out _ e; first | omega | (simp at this <;> omega))).1 _).trans (by go_simp); have qf3 : w3'.frozen? ⟨w2.heap.size, 1, none⟩ = false := ((grown_cell hg3 (by first | omega | (simp <;> omega)) (fun e => by have := HBA.out _ e; first | omega | (simp at this <;> omega))).2 _).trans (by go_simp); have qt0 : V.heap.size < w3'.heap.size := (by omega); have qt1 : V.heap.size < w3'.heap.size + 1 := (by omega); have qt2 : w2.heap.size < w3'.heap.size := (by omega); have qt3 : w2.heap.size < w3'.heap.size + 1 := (by omega); have HB3 := Lib.hid (show ∀ k', (Value.slice A3 (acc.length + r.2.1.length) c3).ownBlock = some k' → (k' ≠ V.heap.size ∧ V.heap.size ≤ k' ∧ k' < w3'.heap.size) from fun k' hk' => ⟨(block_at hat3 (fun k' => k' ≠ V.heap.size ∧ V.heap.size ≤ k') (fun k' hk' => by have := HBA.out k' hk'; omega) (by first | omega | (simp <;> omega)) k' hk').1, (block_at hat3 (fun k' => k' ≠ V.heap.size ∧ V.heap.size ≤ k') (fun k' hk' => by have := HBA.out k' hk'; omega) (by first | omega | (simp <;> omega)) k' hk').2, (ho3.block k' hk').2⟩); have HO3 := Lib.hid ho3; have HOD3 := Lib.hid (show Own dk 39 w3' V.heap.size (.slice Ad r.1.length cd) r.1 from own_past (own_still HOD.out (by repeat (first | exact Below.refl _ _ | with_reducible apply bel_drew | with_reducible apply bel_drewN | with_reducible apply bel_alloc | (with_reducible refine bel_set ?_ (by first | omega | (simp <;> omega)) _) | (with_reducible refine bel_step ?_ (by assumption)) | (with_reducible refine bel_step ?_ (grown_none (by assumption)))))) hg3 (fun k' hk' e => by have := HBA.out k' e; have := HBD.out k' hk'; omega)); have hb3 := bel_grown (W := V) (bel_step hbx (by repeat (first | exact Below.refl _ _ | with_reducible apply bel_drew | with_reducible apply bel_drewN | with_reducible apply bel_alloc | (with_reducible refine bel_set ?_ (by first | omega | (simp <;> omega)) _) | (with_reducible refine bel_step ?_ (by assumption)) | (with_reducible refine bel_step ?_ (grown_none (by assumption)))))) hg3 (fun k' hk' => by have := HBA.out k' hk'; omega); clear hat3 ho3 hg3)
              all_goals
                go_wp2
                go_roundw
                case rel =>
                  refine ⟨n + 1, by omega, by go_num, ?_, ?_⟩
                  · rw [HL.out, HLO.out]; rfl
                  · rw [HL.out]
                    refine ⟨Ad, cd, A3, c3, by rw [List.length_append], (by repeat (first | exact Below.refl _ _ | with_reducible apply bel_drew | with_reducible apply bel_drewN | with_reducible apply bel_alloc | (with_reducible refine bel_set ?_ (by first | omega | (simp <;> omega)) _) | (with_reducible refine bel_step ?_ (by assumption)) | (with_reducible refine bel_step ?_ (grown_none (by assumption))))), Nat.le_refl _, (by first | omega | (simp <;> omega)), by go_simp, by go_simp, by go_simp, by go_simp, (Own.rd (e := 39) (B := V.heap.size) (by (repeat (first | (with_reducible refine Own.setCell ?_ (fun k hk => by have := HBD.out k hk; simp <;> omega) _) | (with_reducible refine own_alloc ?_ _) | (with_reducible refine own_drew ?_) | (with_reducible refine own_drewN ?_ _))); exact HOD3.out)), ?_, fun k' hk' => ?_⟩
                    · rw [List.length_append]; exact (by (repeat (first | (with_reducible refine Own.setCell ?_ (fun k hk => by have := HB3.out k hk; simp <;> omega) _) | (with_reducible refine own_alloc ?_ _) | (with_reducible refine own_drew ?_) | (with_reducible refine own_drewN ?_ _))); exact HO3.out)
                    · rw [List.length_append] at hk'; have := HB3.out k' hk'; first | omega | (simp <;> omega)
                case measure => simp [intOf]; omega
          · have bz : (r.2.2 == 0) = false := beq_eq_false_iff_ne.2 z0
            rw [if_neg (fun q => z0 q.1)] at HLO
            clear z0
            go_wp2_with fail
            go_region_law (refine step_append_rd (d := dk) (v := .slice Aa acc.length ca) (y := .slice Ap r.2.1.length cpp) (xs := acc) (ys := r.2.1) rfl (.tmp 75) (.tmp 76) 27 rfl 39 i0 _ 32 V.heap.size Try.underlying27 hi hz0 hs0 hz2 rfl rfl (own_still HOA.out (by repeat (first | exact Below.refl _ _ | with_reducible apply bel_drew | with_reducible apply bel_drewN | with_reducible apply bel_alloc | (with_reducible refine bel_set ?_ (by first | omega | (simp <;> omega)) _) | (with_reducible refine bel_step ?_ (by assumption)) | (with_reducible refine bel_step ?_ (grown_none (by assumption)))))) rfl (rd_step HRP.out (by repeat (first | exact Below.refl _ _ | with_reducible apply bel_drew | with_reducible apply bel_drewN | with_reducible apply bel_alloc | (with_reducible refine bel_set ?_ (by first | omega | (simp <;> omega)) _) | (with_reducible refine bel_step ?_ (by assumption)) | (with_reducible refine bel_step ?_ (grown_none (by assumption)))))) (by omega) (by unfold maxLen; omega) (by first | omega | (simp <;> omega)) (acc.length + r.2.1.length) (by simp) ?_; intro A3 c3 w3' ho3 hg3 hat3; have hzz := hg3.size; (try simp at hzz); have q0 : w3'.cell? ⟨V.heap.size, 0, none⟩ = some (.int .i64 p) := ((grown_cell hg3 (by first | omega | (simp <;> omega)) (fun e => by have := HBA.out _ e; first | omega | (simp at this <;> omega))).1 _).trans (by go_simp); have qf0 : w3'.frozen? ⟨V.heap.size, 0, none⟩ = false := ((grown_cell hg3 (by first | omega | (simp <;> omega)) (fun e => by have := HBA.out _ e; first | omega | (simp at this <;> omega))).2 _).trans (by go_simp); have q1 : w3'.cell? ⟨V.heap.size, 1, none⟩ = some (.slice Ak xk.length ck) := ((grown_cell hg3 (by first | omega | (simp <;> omega)) (fun e => by have := HBA.out _ e; first | omega | (simp at this <;> omega))).1 _).trans (by go_simp); have qf1 : w3'.frozen? ⟨V.heap.size, 1, none⟩ = false := ((grown_cell hg3 (by first | omega | (simp <;> omega)) (fun e => by have := HBA.out _ e; first | omega | (simp at this <;> omega))).2 _).trans (by go_simp); have q2 : w3'.cell? ⟨w2.heap.size, 0, none⟩ = some (.int .i64 p) := ((grown_cell hg3 (by first | omega | (simp <;> omega)) (fun e => by have := HBA.out _ e; first | omega | (simp at this <;> omega))).1 _).trans (by go_simp); have qf2 : w3'.frozen? ⟨w2.heap.size, 0, none⟩ = false := ((grown_cell hg3 (by first | omega | (simp <;> omega)) (fun e => by have := HBA.out _ e; first | omega | (simp at this <;> omega))).2 _).trans (by go_simp); have q3 : w3'.cell? ⟨w2.heap.size, 1, none⟩ = some (.slice Ad r.1.length cd) := ((grown_cell hg3 (by first | omega | (simp <;> omega)) (fun e => by have := HBA.out _ e; first | omega | (simp at this <;> omega))).1 _).trans (by go_simp); have qf3 : w3'.frozen? ⟨w2.heap.size, 1, none⟩ = false := ((grown_cell hg3 (by first | omega | (simp <;> omega)) (fun e => by have := HBA.out _ e; first | omega | (simp at this <;> omega))).2 _).trans (by go_simp); have qt0 : V.heap.size < w3'.heap.size := (by omega); have qt1 : V.heap.size < w3'.heap.size + 1 := (by omega); have qt2 : w2.heap.size < w3'.heap.size := (by omega); have qt3 : w2.heap.size < w3'.heap.size + 1 := (by omega); have HB3 := Lib.hid (show ∀ k', (Value.slice A3 (acc.length + r.2.1.length) c3).ownBlock = some k' → (k' ≠ V.heap.size ∧ V.heap.size ≤ k' ∧ k' < w3'.heap.size) from fun k' hk' => ⟨(block_at hat3 (fun k' => k' ≠ V.heap.size ∧ V.heap.size ≤ k') (fun k' hk' => by have := HBA.out k' hk'; omega) (by first | omega | (simp <;> omega)) k' hk').1, (block_at hat3 (fun k' => k' ≠ V.heap.size ∧ V.heap.size ≤ k') (fun k' hk' => by have := HBA.out k' hk'; omega) (by first | omega | (simp <;> omega)) k' hk').2, (ho3.block k' hk').2⟩); have HO3 := Lib.hid ho3; have HOD3 := Lib.hid (show Own dk 39 w3' V.heap.size (.slice Ad r.1.length cd) r.1 from own_past (own_still HOD.out (by repeat (first | exact Below.refl _ _ | with_reducible apply bel_drew | with_reducible apply bel_drewN | with_reducible apply bel_alloc | (with_reducible refine bel_set ?_ (by first | omega | (simp <;> omega)) _) | (with_reducible refine bel_step ?_ (by assumption)) | (with_reducible refine bel_step ?_ (grown_none (by assumption)))))) hg3 (fun k' hk' e => by have := HBA.out k' e; have := HBD.out k' hk'; omega)); have hb3 := bel_grown (W := V) (bel_step hbx (by repeat (first | exact Below.refl _ _ | with_reducible apply bel_drew | with_reducible apply bel_drewN | with_reducible apply bel_alloc | (with_reducible refine bel_set ?_ (by first | omega | (simp <;> omega)) _) | (with_reducible refine bel_step ?_ (by assumption)) | (with_reducible refine bel_step ?_ (grown_none (by assumption)))))) hg3 (fun k' hk' => by have := HBA.out k' hk'; omega); clear hat3 ho3 hg3)
            all_goals
              go_wp2
              go_roundw
              case rel =>
                refine ⟨n + 1, by omega, by go_num, ?_, ?_⟩
                · rw [HL.out, HLO.out]; rfl
                · rw [HL.out]
                  refine ⟨Ad, cd, A3, c3, by rw [List.length_append], (by repeat (first | exact Below.refl _ _ | with_reducible apply bel_drew | with_reducible apply bel_drewN | with_reducible apply bel_alloc | (with_reducible refine bel_set ?_ (by first | omega | (simp <;> omega)) _) | (with_reducible refine bel_step ?_ (by assumption)) | (with_reducible refine bel_step ?_ (grown_none (by assumption))))), Nat.le_refl _, (by first | omega | (simp <;> omega)), by go_simp, by go_simp, by go_simp, by go_simp, (Own.rd (e := 39) (B := V.heap.size) (by (repeat (first | (with_reducible refine Own.setCell ?_ (fun k hk => by have := HBD.out k hk; simp <;> omega) _) | (with_reducible refine own_alloc ?_ _) | (with_reducible refine own_drew ?_) | (with_reducible refine own_drewN ?_ _))); exact HOD3.out)), ?_, fun k' hk' => ?_⟩
                  · rw [List.length_append]; exact (by (repeat (first | (with_reducible refine Own.setCell ?_ (fun k hk => by have := HB3.out k hk; simp <;> omega) _) | (with_reducible refine own_alloc ?_ _) | (with_reducible refine own_drew ?_) | (with_reducible refine own_drewN ?_ _))); exact HO3.out)
                  · rw [List.length_append] at hk'; have := HB3.out k' hk'; first | omega | (simp <;> omega)
              case measure => simp [intOf]; omega
        · obtain rfl : n = ts.length := by omega
          have HPM : ∃ gone : List S39, gone.length = (keepTo xs ts ts.length).2.2 ∧ ((keepTo xs ts ts.length).2.1 ++ (keepTo xs ts ts.length).1 ++ gone).Perm xs := keep_perm xs (ts.take ts.length) (fun h hh => HTM.out h (List.mem_of_mem_take hh))
          generalize keepTo xs ts ts.length = s at hI bd HPM ⊢
          obtain ⟨xk, acc, lost⟩ := s
          dsimp only at hI bd HPM ⊢
          obtain ⟨gone, hgl2, hperm⟩ := HPM
          have HP := Lib.hid hperm
          have HGL := Lib.hid hgl2
          obtain ⟨Ak, ck, Aa, ca, rfl, hbx, hB0, hB1, r0, r1, rf0, rf1, hrN, hoA, hobA⟩ := hI
          have hzx := hbx.size
          obtain ⟨hcx, hfx⟩ := bcell hbx
          have v1 := (hcx _ 1 lt1).trans m1
          have lt3 : w3.heap.size < wr.heap.size := by omega
          have HRN := Lib.hid hrN
          have HOA := Lib.hid hoA
          have bd1 := bd.1
          have lx : xk.length ≤ 5 := by omega
          have la : acc.length ≤ 5 := by omega
          have ll : lost ≤ 5 := by omega
          have lsum : ((xk.length : Int) + acc.length + lost != xs.length) = false := by rw [bne_eq_false_iff_eq]; omega
          have HBD := Lib.hid bd1
          clear hcx hfx hperm hgl2 hrN hoA hobA bd bd1 m0 m1
          go_wp2_with (at_builtin; refine wpList_append_rd (d := dk) (v := .slice none 0 0) (y := .slice A1 xs.length cp) (xs := []) (ys := xs) rfl _ _ 27 rfl 39 i0 _ 32 wr.heap.size Try.underlying27 hi hz0 hs0 hz2 rfl rfl (Own.nil dk 39 _ _) rfl (HX.out.rd (by repeat (first | exact Below.refl _ _ | with_reducible apply bel_drew | with_reducible apply bel_drewN | with_reducible apply bel_alloc | (with_reducible refine bel_set ?_ (by first | omega | (simp <;> omega)) _) | (with_reducible refine bel_step ?_ (by assumption)) | (with_reducible refine bel_step ?_ (grown_none (by assumption)))))) (by simp <;> omega) (by unfold maxLen; simp <;> omega) (by first | omega | (simp <;> omega)) xs.length (by simp) ?_; intro A4 c4 w6 ho6 hg6 hat6; have hb6 := grown_none hg6; clear hat6 hg6; rw [List.nil_append] at ho6; have HO6 := Lib.hid ho6; clear ho6)
          have hz6 := hb6.size
          try simp at hz6
          obtain ⟨hc6, hf6⟩ := bcell hb6
          have s0 : w6.cell? ⟨V.heap.size, 1, none⟩ = some (.slice Ak xk.length ck) := (hc6 _ _ (by first | omega | (simp <;> omega))).trans (by go_simp)
          have s1 : V.heap.size < w6.heap.size := by omega
          clear hc6 hf6
          go_cut [98, 99, 100] from 94 to 97 (fun s m i wx => ∃ A6 c6, s = .slice A6 (acc.length + xk.length) c6 ∧ m = .int .i64 ((acc.length + xk.length : Nat) : Int) ∧ i = .int .i64 0 ∧ Below w6.heap.size w6 wx ∧ Own dk 39 wx wr.heap.size (.slice A6 (acc.length + xk.length) c6) (acc ++ xk))
          case first =>
            go_region_law (first | (refine step_append_rd (d := dk) (v := .slice none 0 0) (y := .slice Aa acc.length ca) (xs := []) (ys := acc) rfl (.const (.slice none 0 0)) (.tmp 94) 27 rfl 39 i0 _ 32 wr.heap.size Try.underlying27 hi hz0 hs0 hz2 rfl rfl (Own.nil dk 39 _ _) rfl (own_still HOA.out (by repeat (first | exact Below.refl _ _ | with_reducible apply bel_drew | with_reducible apply bel_drewN | with_reducible apply bel_alloc | (with_reducible refine bel_set ?_ (by first | omega | (simp <;> omega)) _) | (with_reducible refine bel_step ?_ (by assumption)) | (with_reducible refine bel_step ?_ (grown_none (by assumption)))))).rd (by simp <;> omega) (by unfold maxLen; simp <;> omega) (by first | omega | (simp <;> omega)) acc.length (by simp) ?_; intro A5 c5 w7 ho7 hg7 hat7; have hb7 := grown_none hg7; have HOB5 := Lib.hid (show ∀ k, (Value.slice A5 acc.length c5).ownBlock = some k → w6.heap.size ≤ k from block_at hat7 (fun k => w6.heap.size ≤ k) (fun k hk => by simp [Value.ownBlock] at hk) (by first | omega | (simp <;> omega))); clear hat7 hg7; rw [List.nil_append] at ho7; have HO7 := Lib.hid ho7; clear ho7; have hz7 := hb7.size; (try simp at hz7); obtain ⟨hc7, hf7⟩ := bcell hb7; have s2 : w7.cell? ⟨V.heap.size, 1, none⟩ = some (.slice Ak xk.length ck) := (hc7 _ _ (by first | omega | (simp <;> omega))).trans (by go_simp); have s3 : V.heap.size < w7.heap.size := (by omega); clear hc7 hf7) | (refine step_append_rd (d := dk) (v := .slice A5 acc.length c5) (y := .slice Ak xk.length ck) (xs := acc) (ys := xk) rfl (.tmp 95) (.tmp 97) 27 rfl 39 i0 _ 32 wr.heap.size Try.underlying27 hi hz0 hs0 hz2 rfl rfl (own_still HO7.out (by repeat (first | exact Below.refl _ _ | with_reducible apply bel_drew | with_reducible apply bel_drewN | with_reducible apply bel_alloc | (with_reducible refine bel_set ?_ (by first | omega | (simp <;> omega)) _) | (with_reducible refine bel_step ?_ (by assumption)) | (with_reducible refine bel_step ?_ (grown_none (by assumption)))))) rfl (HRN.out.below (by repeat (first | exact Below.refl _ _ | with_reducible apply bel_drew | with_reducible apply bel_drewN | with_reducible apply bel_alloc | (with_reducible refine bel_set ?_ (by first | omega | (simp <;> omega)) _) | (with_reducible refine bel_step ?_ (by assumption)) | (with_reducible refine bel_step ?_ (grown_none (by assumption)))))) (by omega) (by unfold maxLen; omega) (by first | omega | (simp <;> omega)) (acc.length + xk.length) (by simp) ?_; intro A6 c6 w8 ho8 hg8 hat8; have hb8 := bel_grown (W := w6) (by repeat (first | exact Below.refl _ _ | with_reducible apply bel_drew | with_reducible apply bel_drewN | with_reducible apply bel_alloc | (with_reducible refine bel_set ?_ (by first | omega | (simp <;> omega)) _) | (with_reducible refine bel_step ?_ (by assumption)) | (with_reducible refine bel_step ?_ (grown_none (by assumption))))) hg8 (fun k hk => by have := (HOB5.out k hk); omega); clear hat8 hg8; have HO8 := Lib.hid ho8; clear ho8))
            all_goals
              go_wp2_with fail
              go_meet
              case rel => exact ⟨A6, c6, rfl, by simp, rfl, (by repeat (first | exact Below.refl _ _ | with_reducible apply bel_drew | with_reducible apply bel_drewN | with_reducible apply bel_alloc | (with_reducible refine bel_set ?_ (by first | omega | (simp <;> omega)) _) | (with_reducible refine bel_step ?_ (by assumption)) | (with_reducible refine bel_step ?_ (grown_none (by assumption))))), own_still HO8.out (by repeat (first | exact Below.refl _ _ | with_reducible apply bel_drew | with_reducible apply bel_drewN | with_reducible apply bel_alloc | (with_reducible refine bel_set ?_ (by first | omega | (simp <;> omega)) _) | (with_reducible refine bel_step ?_ (by assumption)) | (with_reducible refine bel_step ?_ (grown_none (by assumption)))))⟩
          case rest =>
            obtain ⟨A6, c6, rfl, rfl, rfl, hb8, ho8⟩ := hcut
            obtain ⟨qs, hqs⟩ : ∃ qs, qs = acc ++ xk := ⟨_, rfl⟩
            have lq : acc.length + xk.length = qs.length := by rw [hqs, List.length_append]
            have HP2 : Hid ((qs ++ gone).Perm xs) := by rw [hqs]; exact HP
            rw [← hqs] at ho8
            rw [lq] at ho8
            have l5 : qs.length ≤ 10 := by omega
            simp only [lq]
            obtain ⟨U, hU⟩ : ∃ U, U = wc := ⟨_, rfl⟩
            subst hU
            have HQ := Lib.hid (fun (W : World) (hb : Below U.heap.size U W) => (show Rd dk W (.slice A6 qs.length c6) qs from ho8.rd.below hb))
            have start3 : RestI U U xs (.slice A4 xs.length c4) := ⟨A4, c4, rfl, Below.refl _ _, HO6.out.rd.below hb8⟩
            have HU := Lib.hid (show Below w.heap.size w U from bel_step (bel_step (bel_step (bel_step HW4 hbw) hbx) hb6) hb8)
            have lgo : gone.length = lost := HGL.out
            clear ho8 HP hqs HRN HOA HTM HT HX HH HK HSH HBD HGL HXR HO6 hb8 lq lsum
            go_wp2_with fail
            go_loopw [16, 100] (fun v i wr => ∃ (n : Nat) (rs : List S39), n ≤ qs.length ∧ i = .int .i64 n ∧ RestI U wr rs v ∧ (qs.drop n ++ gone).Perm rs) (fun _ i _ => qs.length - (intOf i).toNat)
            case atStart => exact ⟨0, xs, by omega, rfl, start3, HP2.out⟩
            case round =>
              obtain ⟨n, rs, hn, rfl, hI, hperm⟩ := hrel
              clear start3
              obtain ⟨Ar, cr, rfl, hbr, hrd⟩ := hI
              have HPR := Lib.hid hperm
              have lrs : rs.length = (qs.length - n) + gone.length := by have := hperm.length_eq; simp at this; omega
              have l15 : rs.length ≤ 15 := by omega
              have LRS := Lib.hid lrs
              clear hperm lrs
              by_cases hlt : n < qs.length
              · obtain ⟨x, hx⟩ : ∃ x, qs[n]? = some x := ⟨_, List.getElem?_eq_getElem hlt⟩
                have HPX := Lib.hid (show (x :: qs.drop (n + 1) ++ gone).Perm rs from by rw [← drop_at hx]; exact HPR.out)
                obtain ⟨gq, oq, he, gql, qc0, qc1, qc2⟩ : ∃ gq oq, A6 = some ⟨gq, oq, none⟩ ∧ gq < wr.heap.size ∧ wr.cell? ⟨gq, oq + n * 3, none⟩ = some (.int .i64 x.f0) ∧ wr.cell? ⟨gq, oq + n * 3 + 1, none⟩ = some (.int .i64 x.f1) ∧ wr.cell? ⟨gq, oq + n * 3 + 2, none⟩ = some (.string x.f2) := by
                  obtain ⟨gh, oh, he, hlt', hcx⟩ := (HQ.out wr hbr).at_ hx
                  exact ⟨gh, oh, he, hlt', hcx 0 _ rfl, hcx 1 _ rfl, hcx 2 _ rfl⟩
                subst he
                obtain ⟨Y, hY⟩ : ∃ Y, Y = wr := ⟨_, rfl⟩
                subst hY
                have HRS := Lib.hid (fun (W : World) (hb : Below Y.heap.size Y W) => (show Rd dk W (.slice Ar rs.length cr) rs from hrd.below hb))
                have HCP := hrd.cap
                have hyz := hbr.size
                clear hrd hx
                go_wp2_with fail
                go_loopw [19, 106] (fun a i wr => ∃ (j : Nat) (k : Int), j ≤ rs.length ∧ i = .int .i64 j ∧ a = .int .i64 k ∧ BoxI Y x wr ∧ Scan rs x j k) (fun _ i _ => rs.length - (intOf i).toNat)
                case atStart => exact ⟨0, -1, by omega, rfl, rfl, ⟨(by repeat (first | exact Below.refl _ _ | with_reducible apply bel_drew | with_reducible apply bel_drewN | with_reducible apply bel_alloc | (with_reducible refine bel_set ?_ (by first | omega | (simp <;> omega)) _) | (with_reducible refine bel_step ?_ (by assumption)) | (with_reducible refine bel_step ?_ (grown_none (by assumption))))), by simp, by go_simp, by go_simp, by go_simp⟩, Or.inl ⟨rfl, by simp⟩⟩
                case round =>
                  obtain ⟨j, k, hj, rfl, rfl, ⟨hbs, hb1, b0, b1, b2⟩, hsc⟩ := hrel
                  have HSC := Lib.hid hsc
                  clear hsc
                  by_cases hjl : j < rs.length
                  · obtain ⟨r, hr⟩ : ∃ r, rs[j]? = some r := ⟨_, List.getElem?_eq_getElem hjl⟩
                    obtain ⟨gr, orr, he, grl, rc0, rc1, rc2⟩ : ∃ gr orr, Ar = some ⟨gr, orr, none⟩ ∧ gr < wr.heap.size ∧ wr.cell? ⟨gr, orr + j * 3, none⟩ = some (.int .i64 r.f0) ∧ wr.cell? ⟨gr, orr + j * 3 + 1, none⟩ = some (.int .i64 r.f1) ∧ wr.cell? ⟨gr, orr + j * 3 + 2, none⟩ = some (.string r.f2) := by
                      obtain ⟨gh, oh, he, hlt', hcx⟩ := (HRS.out wr hbs).at_ hr
                      exact ⟨gh, oh, he, hlt', hcx 0 _ rfl, hcx 1 _ rfl, hcx 2 _ rfl⟩
                    subst he
                    have HR' := Lib.hid hr
                    clear hr
                    by_cases hrx : r = x
                    · have be := eq39_self x
                      rw [← hrx] at be
                      rw [hrx] at HR'
                      subst hrx
                      have HN := Lib.hid (Scan.hit HR'.out)
                      go_wp2_with fail
                      go_roundw
                      case rel => exact ⟨j + 1, j, by omega, by go_num, rfl, ⟨(by repeat (first | exact Below.refl _ _ | with_reducible apply bel_drew | with_reducible apply bel_drewN | with_reducible apply bel_alloc | (with_reducible refine bel_set ?_ (by first | omega | (simp <;> omega)) _) | (with_reducible refine bel_step ?_ (by assumption)) | (with_reducible refine bel_step ?_ (grown_none (by assumption))))), by simp <;> omega, by go_simp, by go_simp, by go_simp⟩, HN.out⟩
                      case measure => simp [intOf]; omega
                    · have be := eq39_ne hrx
                      have HN := Lib.hid (Scan.miss HSC.out HR'.out hrx)
                      go_wp2_with fail
                      go_roundw
                      case rel => exact ⟨j + 1, k, by omega, by go_num, rfl, ⟨(by repeat (first | exact Below.refl _ _ | with_reducible apply bel_drew | with_reducible apply bel_drewN | with_reducible apply bel_alloc | (with_reducible refine bel_set ?_ (by first | omega | (simp <;> omega)) _) | (with_reducible refine bel_step ?_ (by assumption)) | (with_reducible refine bel_step ?_ (grown_none (by assumption))))), by simp <;> omega, by go_simp, by go_simp, by go_simp⟩, HN.out⟩
                      case measure => simp [intOf]; omega
                  · obtain rfl : j = rs.length := by omega
                    obtain ⟨k', hk, rfl, hrk⟩ := HSC.out.found (mem_rest HPX.out)
                    have HPN := Lib.hid (take_one HPX.out hrk)
                    generalize k' = k at hk hrk HPN
                    have hl9 := cut_length hk
                    clear hrk b0 b1 b2 HSC
                    have g0 : decide ((k : Int) < 0) = false := decide_eq_false (by omega)
                    clear hjl hl9
                    go_wp2_with fail
                    have g1 : IntKind.i64.wrap ((k : Int) + 1) = (k : Int) + 1 := IntWalk.i64_in _ (by omega)
                    have g2 : 0 ≤ (k : Int) + 1 := by omega
                    have g3 : ((k : Int) + 1).toNat = k + 1 := by omega
                    have hcr := HCP.1
                    have hcl := HCP.2
                    have g4 : k ≤ cr := by omega
                    have g5 : k + 1 ≤ rs.length := by omega
                    have g6 : (k : Int) ≤ cr := by omega
                    have g7 : (k : Int) + 1 ≤ rs.length := by omega
                    have g8 : n + 1 ≤ qs.length := hlt
                    have HR1 := Lib.hid (rd39_head (HRS.out wr hbs) (Nat.le_of_lt hk))
                    have HR2 := Lib.hid (rd39_tail (HRS.out wr hbs) g5)
                    clear HCP HRS HPX HPR LRS HQ HP2 hd hc hl HR hi4 hz4' hs4 hz24 hb1 hb2 hs13 hs12 hs23 hgl hp1 hp3 hxl hhl hl8 lt1 lt2 hzr hB0 hB1 r0 r1 rf0 rf1 hzx v1 lt3 lx la ll hz6 s0 s1 gql qc0 qc1 qc2 hyz hj lgo g0 hk
                    refine wp_seqK (fun KK hKK => ?_)
                    go_cut [16, 104] from 118 to 126 (fun v _ wx => RestI Y wx (cut rs k) v)
                    case first =>
                      go_region_law (first | (refine step_append_rd (d := dk) (v := .slice none 0 0) (y := .slice Ar k cr) (xs := []) (ys := rs.take k) rfl (.const (.slice none 0 0)) (.tmp 120) 27 rfl 39 i0 _ 32 wr.heap.size Try.underlying27 hi hz0 hs0 hz2 rfl (by simp [Act.eval, Act.put]) (Own.nil dk 39 _ _) (by simp [Act.eval, Act.put]) (rd_step HR1.out (by repeat (first | exact Below.refl _ _ | with_reducible apply bel_drew | with_reducible apply bel_drewN | with_reducible apply bel_alloc | (with_reducible refine bel_set ?_ (by first | omega | (simp <;> omega)) _) | (with_reducible refine bel_step ?_ (by assumption)) | (with_reducible refine bel_step ?_ (grown_none (by assumption)))))) (by simp <;> omega) (by unfold maxLen; simp <;> omega) (by first | omega | (simp <;> omega)) k (by simp <;> omega) ?_; intro A7 c7 u1 hp1 hq1 hat1; have hu1 := grown_none hq1; have hzu := hu1.size; (try simp at hzu); have HOB7 := Lib.hid (show ∀ k', (Value.slice A7 k c7).ownBlock = some k' → wr.heap.size ≤ k' from fun k' hk' => (hp1.block k' hk').1); clear hat1 hq1; rw [List.nil_append] at hp1; have HO7 := Lib.hid hp1; clear hp1) | (refine step_append_rd (d := dk) (v := .slice A7 k c7) (y := .slice (if cr = k + 1 then Ar else Ar.map (fun x => x.add ((k + 1) * 3))) (rs.length - (k + 1)) (cr - (k + 1))) (xs := rs.take k) (ys := rs.drop (k + 1)) rfl (.tmp 121) (.tmp 125) 27 rfl 39 i0 _ 32 wr.heap.size Try.underlying27 hi hz0 hs0 hz2 rfl (by simp [Act.eval, Act.put]) (own_still HO7.out (by repeat (first | exact Below.refl _ _ | with_reducible apply bel_drew | with_reducible apply bel_drewN | with_reducible apply bel_alloc | (with_reducible refine bel_set ?_ (by first | omega | (simp <;> omega)) _) | (with_reducible refine bel_step ?_ (by assumption)) | (with_reducible refine bel_step ?_ (grown_none (by assumption)))))) (by simp [Act.eval, Act.put]) (rd_step HR2.out (by repeat (first | exact Below.refl _ _ | with_reducible apply bel_drew | with_reducible apply bel_drewN | with_reducible apply bel_alloc | (with_reducible refine bel_set ?_ (by first | omega | (simp <;> omega)) _) | (with_reducible refine bel_step ?_ (by assumption)) | (with_reducible refine bel_step ?_ (grown_none (by assumption)))))) (by simp <;> omega) (by unfold maxLen; simp <;> omega) (by first | omega | (simp <;> omega)) (cut rs k).length (by unfold cut; rfl) ?_; intro A9 c9 u2 hp2 hq2 hat2; have hu2 := bel_grown (W := wr) (by repeat (first | exact Below.refl _ _ | with_reducible apply bel_drew | with_reducible apply bel_drewN | with_reducible apply bel_alloc | (with_reducible refine bel_set ?_ (by first | omega | (simp <;> omega)) _) | (with_reducible refine bel_step ?_ (by assumption)) | (with_reducible refine bel_step ?_ (grown_none (by assumption))))) hq2 (fun k' hk' => HOB7.out k' hk'); clear hat2 hq2; have HO9 := Lib.hid hp2; clear hp2))
                      all_goals go_wp2_with fail
                      all_goals
                        go_meet
                        case rel => exact ⟨A9, c9, rfl, bel_step hbs (by repeat (first | exact hu2 | exact Below.refl _ _ | with_reducible apply bel_drew | with_reducible apply bel_drewN | with_reducible apply bel_alloc | (with_reducible refine bel_set ?_ (by first | omega | (simp <;> omega)) _) | (with_reducible refine bel_step ?_ (by assumption)) | (with_reducible refine bel_step ?_ (grown_none (by assumption))))), rd_step HO9.out.rd (by repeat (first | exact Below.refl _ _ | with_reducible apply bel_drew | with_reducible apply bel_drewN | with_reducible apply bel_alloc | (with_reducible refine bel_set ?_ (by first | omega | (simp <;> omega)) _) | (with_reducible refine bel_step ?_ (by assumption)) | (with_reducible refine bel_step ?_ (grown_none (by assumption)))))⟩
                    case rest =>
                      obtain ⟨A9, c9, rfl, hb9, hr9⟩ := hcut
                      refine hKK _ _ ?_
                      go_wp2_with fail
                      go_roundw
                      case rel => exact ⟨n + 1, cut rs k, by omega, by go_num, ⟨A9, c9, rfl, bel_step hbr hb9, hr9⟩, HPN.out⟩
                      case measure => simp [intOf]; omega
              · obtain rfl : n = qs.length := by omega
                have hll : rs.length = lost := by have := LRS.out; omega
                have hbe : ((rs.length : Int) == (lost : Int)) = true := by rw [beq_iff_eq]; omega
                clear HPR LRS hrd
                go_wp2_with (go_at_call 8; refine (awake_any _).mono ?_; rintro e w9 ⟨rfl, hb9⟩)
                go_ret
                exact ⟨rfl, bel_step HU.out (bel_step hbr (bel_step (by repeat (first | exact Below.refl _ _ | with_reducible apply bel_drew | with_reducible apply bel_drewN | with_reducible apply bel_alloc | (with_reducible refine bel_set ?_ (by first | omega | (simp <;> omega)) _) | (with_reducible refine bel_step ?_ (by assumption)) | (with_reducible refine bel_step ?_ (grown_none (by assumption))))) hb9))⟩
end Go.Proofs.Ytkcijghflaoccaa.Nw
