/-
  No cell of these rows narrows 'for every input' (looked for: loops, veiled, ifaces, maps, wideKeys, modest, calm, conditions, laid).
  DERIVED. THE GIVEN ROWS OF THIS SEAT. 4 by the template 'for every input the law returns true; each argument reads behind the call as it read before'; 0 by the template 'total and deterministic' (their statements: YtkcijghflaoccaaTotals.lean).
  GIVEN WITH THE SEED: the statements are not yours to turn. If you find one false, say at which input.
  Laid BY PROGRAM, IN A SANDBOX (cutbox-rows.mjs): the forced cells as the released guide's own fill.sh prints them over the translation 0c129d5678450b4d… (all of the seat's roots in one cut). By AI agents, Wed Nov 11 2026. No macro, syntax, notation, axiom, sorry.
-/
import Derived.Test.YtkcijghflaoccaaChecked
import GoSem.Claim
import GoSem.ClaimJoined
import GoSem.ClaimMapViews
import Derived.JoinedTies
import Derived.KernelRfl
namespace Go.Proofs.Ytkcijghflaoccaa
/- THE CELL 'sum', in the pinned program and in every row, IS THE sha256 OF THE DUMP (.gsa) THAT YtkcijghflaoccaaProg.lean LOADS. Nothing in Lean hashes anything: it is a label: what it is worth is what the hold of that sum in a sandbox is worth. -/
noncomputable def Try.pinned : Pinned := { name := "ytkcijghflaoccaa", sum := "0c129d5678450b4d18206d63f937b731dca3b700b9f2f7a83802379207d962d8", checked := Try.checked }
namespace Rows
def none {H : Type} : Left H := { results := [], args := [] }

/-- 'keyeventlaw42.NetworkKeeps': WHATEVER THE INPUT: true; the input reads as it did. -/
def networkKeepsSpec : ChangeSpec := { name := "networkKeeps", fn := fun _ => fun
  | [d] => { results := [.lit (.bool true)], args := [d] }
  | _ => none }
def networkKeepsRow : OpenClaim := { program := "ytkcijghflaoccaa", sum := "0c129d5678450b4d18206d63f937b731dca3b700b9f2f7a83802379207d962d8", func := "keyevent/keyeventlaw42.NetworkKeeps", spec := "networkKeeps", unfollowed := true, recurses := true, apart := false }
def NetworkKeepsSaid : Prop := networkKeepsRow.holds Try.pinned (OpenSpec.ofChange networkKeepsSpec)

/-- ITS FALSE NEIGHBOUR: 'it returns false'. Refute it at one input. -/
def networkKeepsWrong : ChangeSpec := { name := "networkKeeps", fn := fun _ => fun
  | [d] => { results := [.lit (.bool false)], args := [d] }
  | _ => none }
def NetworkKeepsWrongFalsely : Prop := networkKeepsRow.holds Try.pinned (OpenSpec.ofChange networkKeepsWrong)

/-- 'keyeventlaw42.NetworkAll': WHATEVER THE INPUT: true; the input reads as it did. -/
def networkAllSpec : ChangeSpec := { name := "networkAll", fn := fun _ => fun
  | [d1, d2, d3, d4, d5] => { results := [.lit (.bool true)], args := [d1, d2, d3, d4, d5] }
  | _ => none }
def networkAllRow : OpenClaim := { program := "ytkcijghflaoccaa", sum := "0c129d5678450b4d18206d63f937b731dca3b700b9f2f7a83802379207d962d8", func := "keyevent/keyeventlaw42.NetworkAll", spec := "networkAll", unfollowed := true, recurses := true, apart := false }
def NetworkAllSaid : Prop := networkAllRow.holds Try.pinned (OpenSpec.ofChange networkAllSpec)

/-- ITS FALSE NEIGHBOUR: 'it returns false'. Refute it at one input. -/
def networkAllWrong : ChangeSpec := { name := "networkAll", fn := fun _ => fun
  | [d1, d2, d3, d4, d5] => { results := [.lit (.bool false)], args := [d1, d2, d3, d4, d5] }
  | _ => none }
def NetworkAllWrongFalsely : Prop := networkAllRow.holds Try.pinned (OpenSpec.ofChange networkAllWrong)

/-- 'keyeventlaw42.NetworkRuns': WHATEVER THE INPUT: true; the input reads as it did. -/
def networkRunsSpec : ChangeSpec := { name := "networkRuns", fn := fun _ => fun
  | [d1, d2] => { results := [.lit (.bool true)], args := [d1, d2] }
  | _ => none }
def networkRunsRow : OpenClaim := { program := "ytkcijghflaoccaa", sum := "0c129d5678450b4d18206d63f937b731dca3b700b9f2f7a83802379207d962d8", func := "keyevent/keyeventlaw42.NetworkRuns", spec := "networkRuns", unfollowed := true, recurses := true, apart := false }
def NetworkRunsSaid : Prop := networkRunsRow.holds Try.pinned (OpenSpec.ofChange networkRunsSpec)

/-- ITS FALSE NEIGHBOUR: 'it returns false'. Refute it at one input. -/
def networkRunsWrong : ChangeSpec := { name := "networkRuns", fn := fun _ => fun
  | [d1, d2] => { results := [.lit (.bool false)], args := [d1, d2] }
  | _ => none }
def NetworkRunsWrongFalsely : Prop := networkRunsRow.holds Try.pinned (OpenSpec.ofChange networkRunsWrong)

/-- 'keyeventlaw42.NetworkForges': WHATEVER THE INPUT: true; the input reads as it did. -/
def networkForgesSpec : ChangeSpec := { name := "networkForges", fn := fun _ => fun
  | [d1, d2, d3, d4] => { results := [.lit (.bool true)], args := [d1, d2, d3, d4] }
  | _ => none }
def networkForgesRow : OpenClaim := { program := "ytkcijghflaoccaa", sum := "0c129d5678450b4d18206d63f937b731dca3b700b9f2f7a83802379207d962d8", func := "keyevent/keyeventlaw42.NetworkForges", spec := "networkForges", unfollowed := true, recurses := true, apart := false }
def NetworkForgesSaid : Prop := networkForgesRow.holds Try.pinned (OpenSpec.ofChange networkForgesSpec)

/-- ITS FALSE NEIGHBOUR: 'it returns false'. Refute it at one input. -/
def networkForgesWrong : ChangeSpec := { name := "networkForges", fn := fun _ => fun
  | [d1, d2, d3, d4] => { results := [.lit (.bool false)], args := [d1, d2, d3, d4] }
  | _ => none }
def NetworkForgesWrongFalsely : Prop := networkForgesRow.holds Try.pinned (OpenSpec.ofChange networkForgesWrong)

/- THE SECOND FORM. 'bulk': how many values and letters a reading holds, each counted each time it is reached (what is shared counts as often as it is met; a slice's spare places count too). A statement '..UptoSaid' is the law's where the arguments, and the package variables that the reading takes, are together of bulk at most 1048576: NARROWER than '..Said'. Prove '..Said' where nothing that the law and all that it calls make is longer than what came in: it says more and counts as full. Else prove '..UptoSaid'. A law counts once. -/
mutual
def uptoBulk {H : Type} : DataW H → Nat
  | .lit (.string bytes) => bytes.length + 1
  | .lit _ => 1
  | .nil => 1
  | .ptr d => uptoBulk d + 1
  | .slice elems spare => uptoBulkAll elems + uptoBulkAll spare + 1
  | .agg parts => uptoBulkAll parts + 1
  | .iface _ d => uptoBulk d + 1
  | .map entries => uptoBulkEntries entries + 1
  | .held _ => 1
def uptoBulkAll {H : Type} : List (DataW H) → Nat
  | [] => 0
  | d :: r => uptoBulk d + uptoBulkAll r
def uptoBulkEntries {H : Type} : List (Lit × DataW H) → Nat
  | [] => 0
  | x :: r => uptoBulkEntry x + uptoBulkEntries r
def uptoBulkEntry {H : Type} : Lit × DataW H → Nat
  | (.string bytes, d) => bytes.length + uptoBulk d + 1
  | (_, d) => uptoBulk d + 1
 end
def uptoSmall : (H : Type) → List (DataW H) → Bool := fun _ ds => decide (uptoBulkAll ds ≤ 1048576)
def OpenSpec.upto (s : _root_.Go.ChangeSpec) : _root_.Go.OpenSpec := { _root_.Go.OpenSpec.ofChange s with cond := some uptoSmall }

/-- 'keyeventlaw42.NetworkKeeps', WHERE WHAT IT READS IS OF BULK AT MOST 1048576: true; the input reads as it did. -/
def networkKeepsUptoRow : OpenClaim := { program := "ytkcijghflaoccaa", sum := "0c129d5678450b4d18206d63f937b731dca3b700b9f2f7a83802379207d962d8", func := "keyevent/keyeventlaw42.NetworkKeeps", spec := "networkKeeps", unfollowed := true, recurses := true, apart := false, narrowed := true }
def NetworkKeepsUptoSaid : Prop := networkKeepsUptoRow.holds Try.pinned (OpenSpec.upto networkKeepsSpec)

/-- 'keyeventlaw42.NetworkAll', WHERE WHAT IT READS IS OF BULK AT MOST 1048576: true; the input reads as it did. -/
def networkAllUptoRow : OpenClaim := { program := "ytkcijghflaoccaa", sum := "0c129d5678450b4d18206d63f937b731dca3b700b9f2f7a83802379207d962d8", func := "keyevent/keyeventlaw42.NetworkAll", spec := "networkAll", unfollowed := true, recurses := true, apart := false, narrowed := true }
def NetworkAllUptoSaid : Prop := networkAllUptoRow.holds Try.pinned (OpenSpec.upto networkAllSpec)

/-- 'keyeventlaw42.NetworkRuns', WHERE WHAT IT READS IS OF BULK AT MOST 1048576: true; the input reads as it did. -/
def networkRunsUptoRow : OpenClaim := { program := "ytkcijghflaoccaa", sum := "0c129d5678450b4d18206d63f937b731dca3b700b9f2f7a83802379207d962d8", func := "keyevent/keyeventlaw42.NetworkRuns", spec := "networkRuns", unfollowed := true, recurses := true, apart := false, narrowed := true }
def NetworkRunsUptoSaid : Prop := networkRunsUptoRow.holds Try.pinned (OpenSpec.upto networkRunsSpec)

/-- 'keyeventlaw42.NetworkForges', WHERE WHAT IT READS IS OF BULK AT MOST 1048576: true; the input reads as it did. -/
def networkForgesUptoRow : OpenClaim := { program := "ytkcijghflaoccaa", sum := "0c129d5678450b4d18206d63f937b731dca3b700b9f2f7a83802379207d962d8", func := "keyevent/keyeventlaw42.NetworkForges", spec := "networkForges", unfollowed := true, recurses := true, apart := false, narrowed := true }
def NetworkForgesUptoSaid : Prop := networkForgesUptoRow.holds Try.pinned (OpenSpec.upto networkForgesSpec)

end Rows
end Go.Proofs.Ytkcijghflaoccaa
