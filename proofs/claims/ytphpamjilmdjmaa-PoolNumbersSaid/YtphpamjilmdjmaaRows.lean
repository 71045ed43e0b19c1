/-
  No cell of these rows narrows 'for every input' (looked for: loops, veiled, ifaces, maps, wideKeys, modest, calm, conditions, laid).
  DERIVED. THE GIVEN ROWS OF THIS SEAT. 3 by the template 'for every input the law returns true; each argument reads behind the call as it read before'; 0 by the template 'total and deterministic' (their statements: YtphpamjilmdjmaaTotals.lean).
  GIVEN WITH THE SEED: the statements are not yours to turn. If you find one false, say at which input.
  Laid BY PROGRAM, IN A SANDBOX (cutbox-rows.mjs): the forced cells as the released guide's own fill.sh prints them over the translation 7c89500fdefdc30c… (all of the seat's roots in one cut). By AI agents, Wed Nov 11 2026. No macro, syntax, notation, axiom, sorry.
-/
import Derived.Test.YtphpamjilmdjmaaChecked
import GoSem.Claim
import GoSem.ClaimJoined
import GoSem.ClaimMapViews
import Derived.JoinedTies
import Derived.KernelRfl
namespace Go.Proofs.Ytphpamjilmdjmaa
/- THE CELL 'sum', in the pinned program and in every row, IS THE sha256 OF THE DUMP (.gsa) THAT YtphpamjilmdjmaaProg.lean LOADS. Nothing in Lean hashes anything: it is a label: what it is worth is what the hold of that sum in a sandbox is worth. -/
noncomputable def Try.pinned : Pinned := { name := "ytphpamjilmdjmaa", sum := "7c89500fdefdc30cfa8efa11356965f227b6d0f2931b2d4a1aac4895ec3ad69a", checked := Try.checked }
namespace Rows
def none {H : Type} : Left H := { results := [], args := [] }

/-- 'keyeventlaw24.PoolCommon': WHATEVER THE INPUT: true; the input reads as it did. -/
def poolCommonSpec : ChangeSpec := { name := "poolCommon", fn := fun _ => fun
  | [d1, d2, d3, d4] => { results := [.lit (.bool true)], args := [d1, d2, d3, d4] }
  | _ => none }
def poolCommonRow : OpenClaim := { program := "ytphpamjilmdjmaa", sum := "7c89500fdefdc30cfa8efa11356965f227b6d0f2931b2d4a1aac4895ec3ad69a", func := "keyevent/keyeventlaw24.PoolCommon", spec := "poolCommon", apart := false }
def PoolCommonSaid : Prop := poolCommonRow.holds Try.pinned (OpenSpec.ofChange poolCommonSpec)

/-- ITS FALSE NEIGHBOUR: 'it returns false'. Refute it at one input. -/
def poolCommonWrong : ChangeSpec := { name := "poolCommon", fn := fun _ => fun
  | [d1, d2, d3, d4] => { results := [.lit (.bool false)], args := [d1, d2, d3, d4] }
  | _ => none }
def PoolCommonWrongFalsely : Prop := poolCommonRow.holds Try.pinned (OpenSpec.ofChange poolCommonWrong)

/-- 'keyeventlaw24.PoolNumbers': WHATEVER THE INPUT: true; the input reads as it did. -/
def poolNumbersSpec : ChangeSpec := { name := "poolNumbers", fn := fun _ => fun
  | [d1, d2, d3, d4] => { results := [.lit (.bool true)], args := [d1, d2, d3, d4] }
  | _ => none }
def poolNumbersRow : OpenClaim := { program := "ytphpamjilmdjmaa", sum := "7c89500fdefdc30cfa8efa11356965f227b6d0f2931b2d4a1aac4895ec3ad69a", func := "keyevent/keyeventlaw24.PoolNumbers", spec := "poolNumbers", apart := false }
def PoolNumbersSaid : Prop := poolNumbersRow.holds Try.pinned (OpenSpec.ofChange poolNumbersSpec)

/-- ITS FALSE NEIGHBOUR: 'it returns false'. Refute it at one input. -/
def poolNumbersWrong : ChangeSpec := { name := "poolNumbers", fn := fun _ => fun
  | [d1, d2, d3, d4] => { results := [.lit (.bool false)], args := [d1, d2, d3, d4] }
  | _ => none }
def PoolNumbersWrongFalsely : Prop := poolNumbersRow.holds Try.pinned (OpenSpec.ofChange poolNumbersWrong)

/-- 'keyeventlaw24.PoolBest': WHATEVER THE INPUT: true; the input reads as it did. -/
def poolBestSpec : ChangeSpec := { name := "poolBest", fn := fun _ => fun
  | [d] => { results := [.lit (.bool true)], args := [d] }
  | _ => none }
def poolBestRow : OpenClaim := { program := "ytphpamjilmdjmaa", sum := "7c89500fdefdc30cfa8efa11356965f227b6d0f2931b2d4a1aac4895ec3ad69a", func := "keyevent/keyeventlaw24.PoolBest", spec := "poolBest", apart := false }
def PoolBestSaid : Prop := poolBestRow.holds Try.pinned (OpenSpec.ofChange poolBestSpec)

/-- ITS FALSE NEIGHBOUR: 'it returns false'. Refute it at one input. -/
def poolBestWrong : ChangeSpec := { name := "poolBest", fn := fun _ => fun
  | [d] => { results := [.lit (.bool false)], args := [d] }
  | _ => none }
def PoolBestWrongFalsely : Prop := poolBestRow.holds Try.pinned (OpenSpec.ofChange poolBestWrong)

/- THE SECOND FORM. 'bulk': how many values and letters a reading holds, each counted each time it is reached (what is shared counts as often as it is met; a slice's spare places count too). A statement '..UptoSaid' is the law's where the arguments, and the package variables that the reading takes, are together of bulk at most 1048576: NARROWER than '..Said'. Prove '..Said' where nothing that the law and all that it calls make is longer than what came in: it says more and counts as full. Else prove '..UptoSaid'. A law counts once. -/
mutual
def uptoBulk {H : Type} : DataW H → Nat
  | .lit (.string bytes) => bytes.length + 1
  | .lit _ => 1
  | .nil => 1
  | .ptr d => uptoBulk d + 1
  | .slice elems spare => uptoBulkAll elems + uptoBulkAll spare + 1
  | .agg parts => uptoBulkAll parts + 1
  | .iface _ d => uptoBulk d + 1
  | .map entries => uptoBulkEntries entries + 1
  | .held _ => 1
def uptoBulkAll {H : Type} : List (DataW H) → Nat
  | [] => 0
  | d :: r => uptoBulk d + uptoBulkAll r
def uptoBulkEntries {H : Type} : List (Lit × DataW H) → Nat
  | [] => 0
  | x :: r => uptoBulkEntry x + uptoBulkEntries r
def uptoBulkEntry {H : Type} : Lit × DataW H → Nat
  | (.string bytes, d) => bytes.length + uptoBulk d + 1
  | (_, d) => uptoBulk d + 1
 end
def uptoSmall : (H : Type) → List (DataW H) → Bool := fun _ ds => decide (uptoBulkAll ds ≤ 1048576)
def OpenSpec.upto (s : _root_.Go.ChangeSpec) : _root_.Go.OpenSpec := { _root_.Go.OpenSpec.ofChange s with cond := some uptoSmall }

/-- 'keyeventlaw24.PoolCommon', WHERE WHAT IT READS IS OF BULK AT MOST 1048576: true; the input reads as it did. -/
def poolCommonUptoRow : OpenClaim := { program := "ytphpamjilmdjmaa", sum := "7c89500fdefdc30cfa8efa11356965f227b6d0f2931b2d4a1aac4895ec3ad69a", func := "keyevent/keyeventlaw24.PoolCommon", spec := "poolCommon", apart := false, narrowed := true }
def PoolCommonUptoSaid : Prop := poolCommonUptoRow.holds Try.pinned (OpenSpec.upto poolCommonSpec)

/-- 'keyeventlaw24.PoolNumbers', WHERE WHAT IT READS IS OF BULK AT MOST 1048576: true; the input reads as it did. -/
def poolNumbersUptoRow : OpenClaim := { program := "ytphpamjilmdjmaa", sum := "7c89500fdefdc30cfa8efa11356965f227b6d0f2931b2d4a1aac4895ec3ad69a", func := "keyevent/keyeventlaw24.PoolNumbers", spec := "poolNumbers", apart := false, narrowed := true }
def PoolNumbersUptoSaid : Prop := poolNumbersUptoRow.holds Try.pinned (OpenSpec.upto poolNumbersSpec)

/-- 'keyeventlaw24.PoolBest', WHERE WHAT IT READS IS OF BULK AT MOST 1048576: true; the input reads as it did. -/
def poolBestUptoRow : OpenClaim := { program := "ytphpamjilmdjmaa", sum := "7c89500fdefdc30cfa8efa11356965f227b6d0f2931b2d4a1aac4895ec3ad69a", func := "keyevent/keyeventlaw24.PoolBest", spec := "poolBest", apart := false, narrowed := true }
def PoolBestUptoSaid : Prop := poolBestUptoRow.holds Try.pinned (OpenSpec.upto poolBestSpec)

end Rows
end Go.Proofs.Ytphpamjilmdjmaa
