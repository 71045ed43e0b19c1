/- Contracts: clones and cuts of lists of packets. -/
import Derived.Test.YtkcijghflaoccaaOw
import Derived.Test.YtkcijghflaoccaaPNetworkAllx0
import Derived.LoopTactic
import Derived.IntWalk
import Derived.Lib.Hide
import Derived.WalkSpells
import Derived.Deep.RegionLaw
import Derived.Outline
namespace Go.Proofs.Ytkcijghflaoccaa.Nw
open Go.RowKit Go.Proofs.Ytkcijghflaoccaa.Ow Go.Proofs.Ytkcijghflaoccaa.PNetworkAll
set_option linter.unusedVariables false
set_option linter.unusedSimpArgs false

def dk : En S39 := { enc := fun x => [.int .i64 x.f0, .int .i64 x.f1, .string x.f2], sz := 3, pos := by omega, len := fun _ => rfl, one := fun x u hu => by simp at hu; rcases hu with rfl | rfl | rfl <;> rfl }

/-- One of its own: it keeps its contents under a name that the walk does not open. -/
def Clone (w : World) (e : Ending) (w' : World) (xs : List S39) : Prop := ∃ A c, e = .returned (.slice A xs.length c) ∧ Own dk 39 w' w.heap.size (.slice A xs.length c) xs ∧ Below w.heap.size w w'
theorem clone_mk {w w' : World} {v : Value} {xs : List S39} (ho : Own dk 39 w' w.heap.size v xs) (hb : Below w.heap.size w w') : Clone w (.returned v) w' xs := by
  obtain ⟨A, c, rfl⟩ := ho.rd.form
  exact ⟨A, c, rfl, ho, hb⟩

set_option maxHeartbeats 400000 in
theorem clone_any (A : Option Addr) (n c : Nat) (xs : List S39) (w : World) (hr : Rd dk w (.slice A n c) xs) (hl : xs.length ≤ 1000000) :
    Calls Try.prog 36 #[.slice A n c] w fun e w' => Clone w e w' xs := by
  rcases hr with ⟨hv, rfl⟩ | ⟨g, o, c, hv, h1, h2, h3, h4⟩ <;> (simp only [Value.slice.injEq] at hv; obtain ⟨rfl, rfl, rfl⟩ := hv)
  · have heq : ∀ W, (binOp .eql 27 (.slice none 0 0) (.slice none 0 0)).run Try.prog W = .ok (.bool true) W := fun W => Lib.run_eql_slice_nil W 27 39 none 0 0 0 0 Try.underlying27
    go_enter Try.func36, Try.ntmps36
    go_wp2
    go_ret
    exact clone_mk (Own.nil _ _ _ _) (Below.refl _ _)
  · have hr : Rd dk w (.slice (some ⟨g, o, none⟩) xs.length c) xs := .inr ⟨g, o, c, rfl, h1, h2, h3, h4⟩
    have H := Lib.hid hr
    clear hr h4
    have heq : ∀ W, (binOp .eql 27 (.slice (some ⟨g, o, none⟩) xs.length c) (.slice none 0 0)).run Try.prog W = .ok (.bool false) W := fun W => Lib.run_eql_slice_nil W 27 39 (some ⟨g, o, none⟩) xs.length c 0 0 Try.underlying27
    have hown : Own dk 39 (w.alloc (.cells #[] 39)) w.heap.size (.slice (some ⟨w.heap.size, 0, none⟩) 0 0) [] := World.ownsRow_made w #[] 0 (Nat.le_refl _) (by unfold maxLen; omega) (by rfl)
    have HO := Lib.hid hown
    clear hown
    obtain ⟨i0, hi, hz0, hz1, hz2⟩ := info_parts info39
    go_enter Try.func36, Try.ntmps36
    go_wp2_with (at_builtin; refine wpList_append_rd (d := dk) rfl _ _ 27 rfl 39 i0 _ 32 w.heap.size Try.underlying27 hi hz0 hz1 hz2 rfl rfl HO.out rfl (H.out.below ((Below.refl _ _).alloc (Nat.le_refl _) _)) (by first | omega | (simp <;> omega)) (by unfold maxLen; simp <;> omega) (by first | omega | (simp <;> omega)) xs.length (by simp) ?_; intro A' c' w' ho hg _)
    go_ret
    exact clone_mk (by simpa using ho) (((Below.refl _ _).alloc (Nat.le_refl _) _).grown hg (by simp) (fun k hk => by have h : w.heap.size = k := Option.some.inj hk; omega))

/-- A network with packets of its own, and nothing else turned. -/
def NetIs (B : Nat) (w : World) (e : Ending) (w' : World) (p : Int) (xs : List S39) : Prop := ∃ A c, e = .returned (.agg #[.int .i64 p, .slice A xs.length c]) ∧ Own dk 39 w' B (.slice A xs.length c) xs ∧ Below B w w'

set_option maxHeartbeats 400000 in
theorem copied_any (p : Int) (A : Option Addr) (n c : Nat) (xs : List S39) (w : World) (hr : Rd dk w (.slice A n c) xs) (hl : xs.length ≤ 1000000) :
    Calls Try.prog 28 #[.agg #[.int .i64 p, .slice A n c]] w fun e w' => NetIs w.heap.size w e w' p xs := by
  have H := Lib.hid hr
  clear hr
  go_enter Try.func28, Try.ntmps28
  go_wp2_with fail
  refine (clone_any A n c xs _ (rd_step H.out (by repeat (first | exact Below.refl _ _ | with_reducible apply bel_drew | with_reducible apply bel_drewN | with_reducible apply bel_alloc | (with_reducible refine bel_set ?_ (by simp <;> omega) _) | (with_reducible refine bel_step ?_ (by assumption)) | (with_reducible refine bel_step ?_ (grown_none (by assumption)))))) hl).mono ?_
  rintro e w1 ⟨A1, c1, rfl, ho, hb⟩
  have hz := hb.size
  simp at hz
  obtain ⟨hc, hf⟩ := bcell hb
  have k0 : w1.cell? ⟨w.heap.size, 0, none⟩ = some (.int .i64 p) := (hc _ _ (by simp <;> omega)).trans (by simp)
  have kf0 : w1.frozen? ⟨w.heap.size, 0, none⟩ = false := (hf _ _ (by simp <;> omega)).trans (by simp)
  have k1 : w1.cell? ⟨w.heap.size, 1, none⟩ = some (.slice A n c) := (hc _ _ (by simp <;> omega)).trans (by simp)
  have kf1 : w1.frozen? ⟨w.heap.size, 1, none⟩ = false := (hf _ _ (by simp <;> omega)).trans (by simp)
  have k2 : w1.cell? ⟨w.heap.size + 1, 0, none⟩ = some (.int .i64 0) := (hc _ _ (by simp <;> omega)).trans (by simp)
  have kf2 : w1.frozen? ⟨w.heap.size + 1, 0, none⟩ = false := (hf _ _ (by simp <;> omega)).trans (by simp)
  have k3 : w1.cell? ⟨w.heap.size + 1, 1, none⟩ = some (.slice none 0 0) := (hc _ _ (by simp <;> omega)).trans (by simp)
  have kf3 : w1.frozen? ⟨w.heap.size + 1, 1, none⟩ = false := (hf _ _ (by simp <;> omega)).trans (by simp)
  clear hc hf
  have hob : ∀ k, (Value.slice A1 xs.length c1).ownBlock = some k → w.heap.size + 2 ≤ k := fun k hk => by have := (ho.block k hk).1; simp at this; omega
  have ho' : Own dk 39 w1 w.heap.size (.slice A1 xs.length c1) xs := ho.lower (by simp <;> omega)
  have HO := Lib.hid ho'
  have HB := Lib.hid hob
  clear ho ho' hob
  go_wp2
  refine bodyPost_ret (v := .agg #[.int .i64 p, .slice A1 xs.length c1]) (by simp [results, Try.results28, go_sem, *]) rfl ⟨A1, c1, rfl, (by repeat (first | exact HO.out | (refine Own.setCell ?_ (fun k hk => by have := HB.out k hk; simp <;> omega) _))), (by repeat (first | exact Below.refl _ _ | with_reducible apply bel_drew | with_reducible apply bel_drewN | with_reducible apply bel_alloc | (with_reducible refine bel_set ?_ (by simp <;> omega) _) | (with_reducible refine bel_step ?_ (by assumption)) | (with_reducible refine bel_step ?_ (grown_none (by assumption)))))⟩

set_option maxHeartbeats 400000 in
theorem copyOf_any (p : Int) (A : Option Addr) (n c : Nat) (xs : List S39) (w : World) (hr : Rd dk w (.slice A n c) xs) (hl : xs.length ≤ 1000000) :
    Calls Try.prog 33 #[.agg #[.int .i64 p, .slice A n c]] w fun e w' => NetIs w.heap.size w e w' p xs := by
  have H := Lib.hid hr
  clear hr
  obtain ⟨i0, hi, hz0, hz1, hz2⟩ := info_parts info39
  go_enter Try.func33, Try.ntmps33
  go_wp2_with fail
  go_region_law (refine step_append_rd (d := dk) rfl _ _ 27 rfl 39 i0 _ 32 (w.heap.size + 2) Try.underlying27 hi hz0 hz1 hz2 rfl rfl (Own.nil dk 39 _ _) rfl (rd_step H.out (by repeat (first | exact Below.refl _ _ | with_reducible apply bel_drew | with_reducible apply bel_drewN | with_reducible apply bel_alloc | (with_reducible refine bel_set ?_ (by simp <;> omega) _) | (with_reducible refine bel_step ?_ (by assumption)) | (with_reducible refine bel_step ?_ (grown_none (by assumption)))))) (by first | omega | (simp <;> omega)) (by unfold maxLen; simp <;> omega) (by first | omega | (simp <;> omega)) xs.length (by simp) ?_; intro A' c' w' ho hg _; have hb := grown_none hg; have hz := hb.size; simp at hz; obtain ⟨hc, hf⟩ := bcell hb; have k0 : w'.cell? ⟨w.heap.size, 0, none⟩ = some (.int .i64 p) := (hc _ _ (by simp <;> omega)).trans (by simp); have kf0 : w'.frozen? ⟨w.heap.size, 0, none⟩ = false := (hf _ _ (by simp <;> omega)).trans (by simp); have k1 : w'.cell? ⟨w.heap.size, 1, none⟩ = some (.slice A n c) := (hc _ _ (by simp <;> omega)).trans (by simp); have kf1 : w'.frozen? ⟨w.heap.size, 1, none⟩ = false := (hf _ _ (by simp <;> omega)).trans (by simp); have k2 : w'.cell? ⟨w.heap.size + 1, 0, none⟩ = some (.int .i64 0) := (hc _ _ (by simp <;> omega)).trans (by simp); have kf2 : w'.frozen? ⟨w.heap.size + 1, 0, none⟩ = false := (hf _ _ (by simp <;> omega)).trans (by simp); have k3 : w'.cell? ⟨w.heap.size + 1, 1, none⟩ = some (.slice none 0 0) := (hc _ _ (by simp <;> omega)).trans (by simp); have kf3 : w'.frozen? ⟨w.heap.size + 1, 1, none⟩ = false := (hf _ _ (by simp <;> omega)).trans (by simp); clear hc hf; have HO := Lib.hid ho; clear ho hg)
  all_goals
    have HB : ∀ k, (Value.slice A' xs.length c').ownBlock = some k → w.heap.size + 2 ≤ k := fun k hk => (HO.out.block k hk).1
    have HO' : Own dk 39 w' w.heap.size (.slice A' xs.length c') xs := HO.out.lower (by omega)
    have HOO := Lib.hid HO'
    have HBB := Lib.hid HB
    clear HO' HB HO
    go_wp2
    refine bodyPost_ret (v := .agg #[.int .i64 p, .slice A' xs.length c']) (by simp [results, Try.results33, go_sem, *]) rfl ⟨A', c', rfl, (by repeat (first | exact HOO.out | (refine Own.setCell ?_ (fun k hk => by have := HBB.out k hk; simp <;> omega) _))), (by repeat (first | exact Below.refl _ _ | with_reducible apply bel_drew | with_reducible apply bel_drewN | with_reducible apply bel_alloc | (with_reducible refine bel_set ?_ (by simp <;> omega) _) | (with_reducible refine bel_step ?_ (by assumption)) | (with_reducible refine bel_step ?_ (grown_none (by assumption)))))⟩

end Go.Proofs.Ytkcijghflaoccaa.Nw
