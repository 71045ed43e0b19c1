/- PROVED: NetworkAll: for every list of numbers, packet, happening and two numbers the law answers true. No condition. -/
import Derived.Test.YtkcijghflaoccaaRows
import Derived.Test.YtkcijghflaoccaaMd
import Derived.WalkKit
import Derived.ProofKit
import Derived.OpenShut
import Derived.ShutString
import Derived.ChangeOld
import Derived.Below
import Derived.SizedLaws
import Derived.Lib.SmallJoins
import Derived.Test.YtkcijghflaoccaaWSized
namespace Go.Proofs.Ytkcijghflaoccaa.networkAll
open Go.ChangeShapes Go.WideShapes Go.ChangeAt Go.RowKit
open Go.ChangeMaps (open_string shut_string)
open Go.Proofs.YtkcijghflaoccaaW Go.Proofs.Ytkcijghflaoccaa.Nw
set_option linter.unusedVariables false
theorem own : ownKnob Try.prog.godebug = none := by kernel_rfl
theorem laidOut : laidOutB Try.prog = true := by kernel_rfl
def IsRow (k : IntKind) (w : World) (a : Option Addr) (len cap : Nat) (zs : List Int) : Prop :=
  (a = none ∧ len = 0 ∧ cap = 0 ∧ zs = []) ∨
  ∃ x, a = some x ∧ len ≤ cap ∧ cap ≤ maxLen ∧ zs.length = cap ∧ (∀ i, i < zs.length → w.cell? (x.add i) = some (.int k (zs.getD i 0))) ∧ ∀ n ∈ zs, (Lit.int k n).wf = true
theorem cells39 : Try.prog.cellsOf 39 = 3 := by kernel_rfl
theorem cells34 : Try.prog.cellsOf 34 = 4 := by kernel_rfl
theorem all_whole (A : Option Addr) (c : Nat) (l : List Int) (x0 : PNetworkAll.S39) (h0 : PNetworkAll.S34) (pa tt : Int) (w : World) (hr : (PrintWords.Kd.int .i64).C w A l.length l) (hc : l.length ≤ c) :
    Calls Try.prog 4 #[.slice A l.length c, .agg #[.int .i64 x0.f0, .int .i64 x0.f1, .string x0.f2], .agg #[.int .i64 h0.f0, .int .i64 h0.f1, .int .i64 h0.f2, .int .i64 h0.f3], .int .i64 pa, .int .i64 tt] w fun e w' => e = .returned (.bool true) ∧ Below w.heap.size w w' := by
  by_cases hl : l.length ≤ 500
  · by_cases hx : x0.f2.size ≤ 500
    · exact all_short A c l x0 h0 pa tt w hr hc hl hx
    · exact all_big A c l x0 h0 pa tt w hr hc hl hx
  · exact all_long A c l x0 h0 pa tt w hr hc hl
/-- A row of numbers that came in, as the printed words read it. -/
theorem row_reads {w : World} {a : Option Addr} {len cap : Nat} {zs : List Int} (h : IsRow .i64 w a len cap zs) : (PrintWords.Kd.int .i64).C w a (zs.take len).length (zs.take len) ∧ (zs.take len).length = len ∧ len ≤ cap := by
  rcases h with ⟨rfl, rfl, rfl, rfl⟩ | ⟨x, rfl, h1, h2, h3, h4, _⟩
  · exact ⟨⟨rfl, by simp, fun h => by simp at h⟩, rfl, Nat.le_refl _⟩
  · have hl : (zs.take len).length = len := by simp; omega
    refine ⟨⟨rfl, by unfold maxLen at h2; omega, fun h0 => ⟨x, rfl, fun j p hj => ⟨[.int .i64 p], rfl, rfl, fun i u hu => ?_⟩⟩⟩, hl, h1⟩
    have hjl : j < len := by have := (List.getElem?_eq_some_iff.1 hj).1; omega
    rw [List.getElem?_take_of_lt hjl] at hj
    match i, hu with
    | 0, hu =>
      simp at hu
      subst hu
      show w.cell? (x.add (j * 1 + 0)) = _
      rw [Nat.mul_one, Nat.add_zero, h4 j (by omega), List.getD_eq_getElem?_getD, hj]
      rfl
    | i + 1, hu => simp at hu
set_option maxRecDepth 100000 in
theorem lifted (os : Os) (started : os.Started) (H : Type) (enc : TypeId × Value → H) :
    ReturnsInHanded {} Try.checked os 4 .any (Rows.networkAllSpec.pre6 enc Try.prog Try.f4 Rows.networkAllRow.domain false) (Rows.networkAllSpec.post enc Try.prog Try.f4 false true false false) := by
  refine returnsInHanded_of_change_sized (C := Try.checked) own started (by kernel_rfl) Try.func4
    (ChangeSpec.witness6 (enc := enc) (C := Try.checked) false ⟨#[], #[.slice none 0 0, .agg #[.int .i64 0, .int .i64 0, .string ⟨#[]⟩], .agg #[.int .i64 0, .int .i64 0, .int .i64 0, .int .i64 0], .int .i64 0, .int .i64 0], []⟩ 8 (by kernel_rfl) (by kernel_rfl) (by kernel_rfl) (by kernel_rfl)) ?_
  intro W base args ds gs before hval0 hW hcnd hsz0 _
  have hsz : (DataW.weightsEach Try.prog (Try.f4.params.toList ++ Rows.networkAllSpec.plain.varTypes Try.prog) (ds ++ gs)).all (· ≤ reachBytes) = true := hsz0
  have hval : ∀ (j : Nat) t v, Try.f4.params[j]? = some t → args[j]? = some v → Value.okWide Try.prog W .any base t v := hval0
  have hW' := hW
  obtain ⟨p, q, hA0, hV, rfl, hfz, hnd⟩ := hW
  have hA : DataW.TrodAll enc Try.prog W 0 (fun _ => true) true Try.f4.params.toList args.toList ds p := hA0
  rw [Try.params4] at hA hval hsz
  obtain ⟨v0, vs0, d0, ds0, p0, q0, hargs, rfl, rfl, h0, r0⟩ := trodAll_cons hA
  obtain ⟨v1, vs1, d1, ds1, p1, q1, rfl, rfl, rfl, h1, r1⟩ := trodAll_cons r0
  obtain ⟨v2, vs2, d2, ds2, p2, q2, rfl, rfl, rfl, h2, r2⟩ := trodAll_cons r1
  obtain ⟨v3, vs3, d3, ds3, p3, q3, rfl, rfl, rfl, h3, r3⟩ := trodAll_cons r2
  obtain ⟨v4, vs4, d4, ds4, p4, q4, rfl, rfl, rfl, h4, r4⟩ := trodAll_cons r3
  obtain ⟨rfl, rfl, rfl⟩ := trodAll_nil r4
  obtain rfl : args = #[v0, v1, v2, v3, v4] := by cases args; simp_all
  obtain ⟨rfl, rfl⟩ := trodVars_none hV
  obtain ⟨a0, len0, cap0, rfl⟩ := okWide_slice Try.underlying22 (hval 0 22 v0 rfl rfl)
  have k0 := h0
  have lt0 : ∀ x ∈ p0, x.block < W.heap.size := by obtain ⟨m, hm⟩ := k0; exact DataW.trod_lt m _ _ _ hm
  obtain ⟨z0, w0⟩ : ∃ zs, IsRow .i64 W a0 len0 cap0 zs := by
    obtain ⟨fuel, hf⟩ := h0
    rcases open_ints Try.underlying22 Try.underlying3 (by kernel_rfl) hf with ⟨hcs, _⟩ | ⟨x, l, c, zs, hcs, _, hl, hm, hz, _, hcell, hwz⟩
    · simp [Value.cells] at hcs
      obtain ⟨rfl, rfl, rfl⟩ := hcs
      exact ⟨[], .inl ⟨rfl, rfl, rfl, rfl⟩⟩
    · simp [Value.cells] at hcs
      obtain ⟨rfl, rfl, rfl⟩ := hcs
      exact ⟨zs, .inr ⟨_, rfl, hl, hm, by simpa using hz, hcell, hwz⟩⟩
  obtain ⟨x0, y0, g0⟩ := row_reads w0
  have lc0 : (z0.take len0).length ≤ cap0 := by omega
  have k1 := h1
  have lt1 : ∀ x ∈ p1, x.block < W.heap.size := by obtain ⟨m, hm⟩ := k1; exact DataW.trod_lt m _ _ _ hm
  obtain ⟨c10, c11, c12, y10, y11, y12, m1, rfl, -, -, hy10, hy11, hy12⟩ := Joins.open_agg3 Try.underlying39 (by kernel_rfl) cells39 (hval 1 39 v1 rfl rfl) h1
  obtain ⟨f10, e10, -, w10⟩ := DataW.trod_int Try.underlying3 hy10
  obtain ⟨f11, e11, -, w11⟩ := DataW.trod_int Try.underlying3 hy11
  obtain ⟨f12, e12, -, w12⟩ := DataW.trod_string Try.underlying9 hy12
  simp at e10 e11 e12
  subst e10 e11 e12
  have k2 := h2
  have lt2 : ∀ x ∈ p2, x.block < W.heap.size := by obtain ⟨m, hm⟩ := k2; exact DataW.trod_lt m _ _ _ hm
  obtain ⟨c20, c21, c22, c23, y20, y21, y22, y23, m2, rfl, -, -, hy20, hy21, hy22, hy23⟩ := Joins.open_agg4 Try.underlying34 (by kernel_rfl) cells34 (hval 2 34 v2 rfl rfl) h2
  obtain ⟨f20, e20, -, w20⟩ := DataW.trod_int Try.underlying3 hy20
  obtain ⟨f21, e21, -, w21⟩ := DataW.trod_int Try.underlying3 hy21
  obtain ⟨f22, e22, -, w22⟩ := DataW.trod_int Try.underlying3 hy22
  obtain ⟨f23, e23, -, w23⟩ := DataW.trod_int Try.underlying3 hy23
  simp at e20 e21 e22 e23
  subst e20 e21 e22 e23
  obtain ⟨a3, rfl, rfl, rfl, w3⟩ := open_int Try.underlying3 (hval 3 3 v3 rfl rfl) h3
  obtain ⟨a4, rfl, rfl, rfl, w4⟩ := open_int Try.underlying3 (hval 4 3 v4 rfl rfl) h4
  clear hA0 hval0 hsz0 hsz
  have hwalk := all_whole a0 cap0 (z0.take len0) ⟨f10, f11, f12⟩ ⟨f20, f21, f22, f23⟩ a3 a4 W x0 lc0
  rw [y0] at hwalk
  refine hwalk.mono fun e W' ⟨he, bel⟩ => ?_
  subst he
  exact ⟨_, rfl, _, _, _, [], _, [], hW', trodAll_mk1 (shut_bool Try.underlying4 _), (trodAll_cons_mk (Below.trod laidOut (by kernel_rfl) (of_decide_eq_true (by kernel_rfl)) k0 bel lt0) (trodAll_cons_mk (Below.trod laidOut (by kernel_rfl) (of_decide_eq_true (by kernel_rfl)) k1 bel lt1) (trodAll_cons_mk (Below.trod laidOut (by kernel_rfl) (of_decide_eq_true (by kernel_rfl)) k2 bel lt2) (trodAll_cons_mk (shut_int Try.underlying3 w3) (trodAll_cons_mk (shut_int Try.underlying3 w4) trodAll_mk0))))), rfl, bel.frame _, fun h => by cases h⟩
theorem over : Rows.networkAllRow.holds Try.pinned (OpenSpec.ofChange Rows.networkAllSpec) :=
  OpenClaim.holds_of_wide 4 Try.f4 rfl rfl rfl rfl rfl rfl rfl ⟨rfl, rfl, rfl, rfl, rfl⟩ rfl rfl rfl rfl rfl (by kernel_rfl) Try.func4 (by kernel_rfl)
    (of_decide_eq_true (by kernel_rfl)) (by unfold Func.isWrapper; first | (rw [if_pos (by decide +kernel)]; kernel_rfl) | (rw [if_neg (by decide +kernel)]; exact ⟨rfl, rfl⟩))
    (fun os started H enc _ => lifted os started H enc)
theorem proved : Rows.NetworkAllSaid := over
#print axioms proved
end Go.Proofs.Ytkcijghflaoccaa.networkAll
namespace Go.Proofs.Ytkcijghflaoccaa
/-- The row, under a short name, for the claim. -/
theorem networkAll_holds : Rows.NetworkAllSaid := networkAll.proved
end Go.Proofs.Ytkcijghflaoccaa
