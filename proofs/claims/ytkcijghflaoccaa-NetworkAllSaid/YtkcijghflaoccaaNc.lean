/- Contracts: a string of which one byte was changed. -/
import Derived.Test.YtkcijghflaoccaaNa
import Derived.Laws.MakeOwn
import Derived.Laws.CopyOwn
import Derived.Lib.BufferWrite
import Derived.Laws.IdiomStrings
import Derived.Deep.OwnRows
import Derived.Lib.ConvBytes
namespace Go.Proofs.Ytkcijghflaoccaa.Nw
open Go.RowKit Go.Proofs.Ytkcijghflaoccaa.Ow Go.Proofs.Ytkcijghflaoccaa.PNetworkAll
set_option linter.unusedVariables false
set_option linter.unusedSimpArgs false

theorem ret_int {k : IntKind} {a b : Int} (h : a = b) : Ending.returned (.int k a) = .returned (.int k b) := by rw [h]

def modv (n m : Int) : Int := (n.tmod m + m).tmod m
theorem modv_bd (n m : Int) (h : 1 ≤ m) : 0 ≤ modv n m ∧ modv n m < m := by
  unfold modv
  have h1 := Int.tmod_lt_of_pos n (by omega : 0 < m)
  have h2 : -m < n.tmod m := Int.lt_tmod_of_pos n (by omega : 0 < m)
  rw [Int.tmod_eq_emod_of_nonneg (by omega)]
  exact ⟨Int.emod_nonneg _ (by omega), Int.emod_lt_of_pos _ (by omega)⟩

set_option maxHeartbeats 400000 in
theorem mod_any (n m : Int) (w : World) (h : 1 ≤ m) (h' : m ≤ 2000000000) :
    Calls Try.prog 29 #[.int .i64 n, .int .i64 m] w fun e w' => e = .returned (.int .i64 (modv n m)) ∧ w = w' := by
  have h1 := Int.tmod_lt_of_pos n (by omega : 0 < m)
  have h2 : -m < n.tmod m := Int.lt_tmod_of_pos n (by omega : 0 < m)
  have h3 : wrap64 (n.tmod m + m) = n.tmod m + m := by unfold wrap64; omega
  have h4 : (n.tmod m + m).tmod m = (n.tmod m + m) % m := Int.tmod_eq_emod_of_nonneg (by omega)
  have H : Hid (wrap64 (n.tmod m + m) = n.tmod m + m) := h3
  have H4 : Hid ((n.tmod m + m).tmod m = (n.tmod m + m) % m) := h4
  clear h3 h4
  go_enter Try.func29, Try.ntmps29
  go_wp2
  go_ret
  exact ⟨ret_int (by unfold modv; first | rfl | rw [H.out] | rw [H4.out]), rfl⟩

set_option maxHeartbeats 400000 in
theorem mod_ref (n m : Int) (w : World) (h : 1 ≤ m) (h' : m ≤ 2000000000) :
    Calls Try.prog 35 #[.int .i64 n, .int .i64 m] w fun e w' => e = .returned (.int .i64 (modv n m)) ∧ w = w' := by
  have h1 := Int.tmod_lt_of_pos n (by omega : 0 < m)
  have h2 : -m < n.tmod m := Int.lt_tmod_of_pos n (by omega : 0 < m)
  have h3 : wrap64 (n.tmod m + m) = n.tmod m + m := by unfold wrap64; omega
  have h4 : (n.tmod m + m).tmod m = (n.tmod m + m) % m := Int.tmod_eq_emod_of_nonneg (by omega)
  have H : Hid (wrap64 (n.tmod m + m) = n.tmod m + m) := h3
  have H4 : Hid ((n.tmod m + m).tmod m = (n.tmod m + m) % m) := h4
  clear h3 h4
  go_enter Try.func35, Try.ntmps35
  go_wp2
  go_ret
  exact ⟨ret_int (by unfold modv; first | rfl | rw [H.out] | rw [H4.out]), rfl⟩

/-- The bytes with the one at 'part' changed. -/
def forge (s : ByteArray) (part value : Int) : ByteArray :=
  if s.size = 0 then s else ⟨(s.data.toList.set (modv part s.size).toNat (UInt8.ofNat (modv value 256).toNat)).toArray⟩

theorem forge_none {s : ByteArray} (h : s.size = 0) (p v : Int) : forge s p v = s := by unfold forge; rw [if_pos h]
theorem forge_some {s : ByteArray} (h : ¬ s.size = 0) {p : Int} {i : Nat} (hi : modv p s.size = i) {v : Int} {b : UInt8} (hb : modv v 256 = (b.toNat : Int)) : forge s p v = ⟨(s.data.toList.set i b).toArray⟩ := by
  unfold forge
  rw [if_neg h, hi, hb]
  simp

/-- copy of a string over a whole row of bytes. -/
theorem wpList_copy_str {P : Program} {w : World} {ops : Array Oper} {rest : List Oper} {o : Oper} {a : Act} {Q : Exit → Act → World → Prop} (hgd : o.guard = none) (d s : Operand) (dT sT : TypeId)
    (ho : o.op = .call { callee := .builtin .copy, args := #[d, s], argTypes := #[dT, sT] }) (elem : TypeId) (hu : P.underlying dT = some (.slice elem)) (hsz : (P.info? elem).map (·.size) = some 1)
    (g dLen dCap : Nat) (str : ByteArray) (hd : a.eval d = .slice (some ⟨g, 0, none⟩) dLen dCap) (hs : a.eval s = .string str)
    (cur : Array Value) (t : TypeId) (hg : w.heap[g]? = some (.cells cur t (0, 0))) (hle : str.size ≤ dLen) (hfit : cur.size = str.size)
    (h : ∀ w', w'.heap[g]? = some (.cells (Lib.byteCells str.data.toList).toArray t (0, 0)) → (∀ B w0, Below B w0 w → B ≤ g → Below B w0 w') → wpList P ops Q rest (a.put o.dst (goInt str.size)) w') :
    wpList P ops Q (o :: rest) a w := by
  refine wpList_plain hgd fun K hK => ?_
  have hrun := Lib.run_copy_row_string (P := P) w dT sT o.type elem g 0 dLen dCap str cur t hu hsz hg hle (by omega)
  unfold Oper.wp
  simp [execOp, ho, resolve, invoke, builtin, hd, hs, hrun, Result.andThen]
  refine hK _ _ (h _ ?_ (fun B w0 hb hB => below_setRow hb hB _))
  have e := setRow_heap w g cur (Lib.byteCells str.data.toList ++ List.drop str.size cur.toList).toArray t (0, 0) hg
  rw [List.drop_eq_nil_of_le (by simpa using Nat.le_of_eq hfit), List.append_nil] at e
  simpa [List.drop_eq_nil_of_le (show cur.toList.length ≤ str.size by simpa using Nat.le_of_eq hfit)] using e

theorem info5 : (Try.prog.info? 5).map (fun i => (i.zero, i.size, i.bytes)) = some (some (.int .u8 0), 1, 1) := by kernel_rfl

/-- The bytes of a string in a row. -/
def Bts (w : World) (g : Nat) (s : ByteArray) : Prop := ∀ j, (h : j < s.data.toList.length) → w.cell? ⟨g, j, none⟩ = some (.int .u8 (s.data.toList[j].toNat : Int))

theorem bts_row {w : World} {g : Nat} {s : ByteArray} {t : TypeId} (hg : w.heap[g]? = some (.cells (Lib.byteCells s.data.toList).toArray t (0, 0))) : Bts w g s := fun j h => by
  rw [cell_of_row w g j _ t (0, 0) hg]
  simp only [Lib.byteCells, List.getElem?_toArray, List.getElem?_map, List.getElem?_eq_getElem h, Option.map_some]

theorem back_set {w : World} {g c : Nat} {s : ByteArray} {i b : Nat} (hc : Bts w g s) (hi : i < s.size) (hb : b = (UInt8.ofNat b).toNat) :
    (convert 60 9 (.slice (some ⟨g, 0, none⟩) s.size c)).run Try.prog (w.setCell ⟨g, i, none⟩ (.int .u8 b)) = .ok (.string ⟨(s.data.toList.set i (UInt8.ofNat b)).toArray⟩) (w.setCell ⟨g, i, none⟩ (.int .u8 b)) := by
  have hl : s.data.toList.length = s.size := by simp
  have h := run_convert_bytes_back (P := Try.prog) (w.setCell ⟨g, i, none⟩ (.int .u8 b)) 60 9 5 ⟨g, 0, none⟩ c (s.data.toList.set i (UInt8.ofNat b)) Try.underlying60 Try.underlying5 Try.underlying9 (fun j hj => by
    rw [List.length_set] at hj
    have h0 := hc j hj
    rw [Addr.add_lit, Nat.zero_add, List.getElem_set]
    by_cases e : i = j
    · subst e
      rw [if_pos rfl, World.cell?_setCell_same' w _ _ (by rw [h0]; rfl), ← hb]
    · rw [if_neg e, World.cell?_setCell_other (h := by intro h; apply e; injection h)]
      exact h0)
  rw [List.length_set, hl] at h
  exact h

set_option maxHeartbeats 400000 in
theorem forged_any (s : ByteArray) (part value : Int) (w : World) (hs : s.size ≤ 1000) :
    Calls Try.prog 31 #[.string s, .int .i64 part, .int .i64 value] w fun e w' => e = .returned (.string (forge s part value)) ∧ Below w.heap.size w w' := by
  by_cases h0 : s.size = 0
  · have e0 : s.toList = [] := by
      rw [ByteArray.toList_eq]
      apply List.eq_nil_of_length_eq_zero; simpa using h0
    have HF := Lib.hid (forge_none h0 part value)
    go_enter Try.func31, Try.ntmps31
    go_wp2
    go_ret
    exact ⟨by rw [HF.out]; rfl, Below.refl _ _⟩
  · have e0 : s.toList.isEmpty = false := by
      rw [ByteArray.toList_eq]
      cases h : s.data.toList with
      | nil => exfalso; apply h0; have := congrArg List.length h; simpa using this
      | cons => rfl
    have h1 : 1 ≤ s.size := by omega
    clear h0
    obtain ⟨i0, hi, hz0, hs0, hz2⟩ := info_parts info5
    have b1 := modv_bd part s.size (by omega)
    have b2 := modv_bd value 256 (by omega)
    obtain ⟨i, hi1⟩ := Int.eq_ofNat_of_zero_le b1.1
    obtain ⟨b, hb1⟩ := Int.eq_ofNat_of_zero_le b2.1
    rw [hi1] at b1
    rw [hb1] at b2
    have hlt : i < s.size := by omega
    have hblt : b < 256 := by omega
    have hbb : b = (UInt8.ofNat b).toNat := by simp; omega
    have HF := Lib.hid (forge_some (by omega) hi1 (b := UInt8.ofNat b) (by rw [hb1, ← hbb]))
    have M1 := fun W => mod_any part s.size W (by omega) (by omega)
    have M2 := fun W => mod_any value 256 W (by omega) (by omega)
    rw [hi1] at M1
    rw [hb1] at M2
    have N1 := Lib.hid M1
    have N2 := Lib.hid M2
    have HBB := Lib.hid hbb
    clear M1 M2 hi1 hb1 b1 b2 hbb
    go_enter Try.func31, Try.ntmps31
    go_wp2_with (first | (at_make; refine wpList_make_row _ rfl _ _ 60 rfl 5 i0 _ Try.underlying60 hi hz0 hs0 rfl .i64 .i64 s.size rfl rfl (by rw [hz2]; omega) (by omega) ?_) | (refine wpList_copy_str rfl (.tmp 14) (.tmp 15) 60 9 rfl 5 Try.underlying60 (by rw [hi]; simp [hs0]) w.heap.size s.size s.size s rfl rfl _ 5 (heap_alloc_new w _) (Nat.le_refl _) (by simp [size_madeCells]) ?_; intro w2 hg2 hb2))
    have hcell : w2.cell? ⟨w.heap.size, i, none⟩ = some (.int .u8 (s.data.toList[i]'(by simpa using hlt)).toNat) := bts_row hg2 i (by simpa using hlt)
    have hfr : w2.frozen? ⟨w.heap.size, i, none⟩ = false := frozen_of_row _ _ _ _ _ hg2
    have hconv := back_set (c := s.size) (bts_row hg2) hlt HBB.out
    have hbel := Lib.hid (hb2 _ _ ((Below.refl _ w).alloc (Nat.le_refl _) _) (Nat.le_refl _))
    clear hg2 hb2
    go_wp2_with (first | (go_at_call 29; (with_reducible refine (N1.out _).mono ?_); rintro e w' ⟨rfl, rfl⟩) | (go_at_call 29; (with_reducible refine (N2.out _).mono ?_); rintro e w' ⟨rfl, rfl⟩))
    go_ret
    exact ⟨by rw [HF.out]; rfl, hbel.out.setCell (Nat.le_refl _) _⟩
end Go.Proofs.Ytkcijghflaoccaa.Nw
