/-
  No cell of these rows narrows 'for every input' (looked for: loops, veiled, ifaces, maps, wideKeys, modest, calm, conditions, laid).
  DERIVED. THE GIVEN ROWS OF THIS SEAT. 4 by the template 'for every input the law returns true; each argument reads behind the call as it read before'; 0 by the template 'total and deterministic' (their statements: YtamkkpdhponhnaaTotals.lean).
  GIVEN WITH THE SEED: the statements are not yours to turn. If you find one false, say at which input.
  Laid BY PROGRAM, IN A SANDBOX (cutbox-rows.mjs): the forced cells as the released guide's own fill.sh prints them over the translation 63bb46e7946262df… (all of the seat's roots in one cut). By AI agents, Wed Nov 11 2026. No macro, syntax, notation, axiom, sorry.
-/
import Derived.Test.YtamkkpdhponhnaaChecked
import GoSem.Claim
import GoSem.ClaimJoined
import GoSem.ClaimMapViews
import Derived.JoinedTies
import Derived.KernelRfl
namespace Go.Proofs.Ytamkkpdhponhnaa
/- THE CELL 'sum', in the pinned program and in every row, IS THE sha256 OF THE DUMP (.gsa) THAT YtamkkpdhponhnaaProg.lean LOADS. Nothing in Lean hashes anything: it is a label: what it is worth is what the hold of that sum in a sandbox is worth. -/
noncomputable def Try.pinned : Pinned := { name := "ytamkkpdhponhnaa", sum := "63bb46e7946262dfa5d94ad52598bcbf32c5b0b06e03a41030f9846f8e356af3", checked := Try.checked }
namespace Rows
def none {H : Type} : Left H := { results := [], args := [] }

/-- 'keyeventlaw41.MailboxOnce': WHATEVER THE INPUT: true; the input reads as it did. -/
def mailboxOnceSpec : ChangeSpec := { name := "mailboxOnce", fn := fun _ => fun
  | [d1, d2] => { results := [.lit (.bool true)], args := [d1, d2] }
  | _ => none }
def mailboxOnceRow : OpenClaim := { program := "ytamkkpdhponhnaa", sum := "63bb46e7946262dfa5d94ad52598bcbf32c5b0b06e03a41030f9846f8e356af3", func := "keyevent/keyeventlaw41.MailboxOnce", spec := "mailboxOnce", unfollowed := true, recurses := true, apart := false }
def MailboxOnceSaid : Prop := mailboxOnceRow.holds Try.pinned (OpenSpec.ofChange mailboxOnceSpec)

/-- ITS FALSE NEIGHBOUR: 'it returns false'. Refute it at one input. -/
def mailboxOnceWrong : ChangeSpec := { name := "mailboxOnce", fn := fun _ => fun
  | [d1, d2] => { results := [.lit (.bool false)], args := [d1, d2] }
  | _ => none }
def MailboxOnceWrongFalsely : Prop := mailboxOnceRow.holds Try.pinned (OpenSpec.ofChange mailboxOnceWrong)

/-- 'keyeventlaw41.MailboxPages': WHATEVER THE INPUT: true; the input reads as it did. -/
def mailboxPagesSpec : ChangeSpec := { name := "mailboxPages", fn := fun _ => fun
  | [d1, d2] => { results := [.lit (.bool true)], args := [d1, d2] }
  | _ => none }
def mailboxPagesRow : OpenClaim := { program := "ytamkkpdhponhnaa", sum := "63bb46e7946262dfa5d94ad52598bcbf32c5b0b06e03a41030f9846f8e356af3", func := "keyevent/keyeventlaw41.MailboxPages", spec := "mailboxPages", unfollowed := true, recurses := true, apart := false }
def MailboxPagesSaid : Prop := mailboxPagesRow.holds Try.pinned (OpenSpec.ofChange mailboxPagesSpec)

/-- ITS FALSE NEIGHBOUR: 'it returns false'. Refute it at one input. -/
def mailboxPagesWrong : ChangeSpec := { name := "mailboxPages", fn := fun _ => fun
  | [d1, d2] => { results := [.lit (.bool false)], args := [d1, d2] }
  | _ => none }
def MailboxPagesWrongFalsely : Prop := mailboxPagesRow.holds Try.pinned (OpenSpec.ofChange mailboxPagesWrong)

/-- 'keyeventlaw41.MailboxAll': WHATEVER THE INPUT: true; the input reads as it did. -/
def mailboxAllSpec : ChangeSpec := { name := "mailboxAll", fn := fun _ => fun
  | [d1, d2, d3, d4, d5] => { results := [.lit (.bool true)], args := [d1, d2, d3, d4, d5] }
  | _ => none }
def mailboxAllRow : OpenClaim := { program := "ytamkkpdhponhnaa", sum := "63bb46e7946262dfa5d94ad52598bcbf32c5b0b06e03a41030f9846f8e356af3", func := "keyevent/keyeventlaw41.MailboxAll", spec := "mailboxAll", unfollowed := true, recurses := true, apart := false }
def MailboxAllSaid : Prop := mailboxAllRow.holds Try.pinned (OpenSpec.ofChange mailboxAllSpec)

/-- ITS FALSE NEIGHBOUR: 'it returns false'. Refute it at one input. -/
def mailboxAllWrong : ChangeSpec := { name := "mailboxAll", fn := fun _ => fun
  | [d1, d2, d3, d4, d5] => { results := [.lit (.bool false)], args := [d1, d2, d3, d4, d5] }
  | _ => none }
def MailboxAllWrongFalsely : Prop := mailboxAllRow.holds Try.pinned (OpenSpec.ofChange mailboxAllWrong)

/-- 'keyeventlaw41.MailboxDrops': WHATEVER THE INPUT: true; the input reads as it did. -/
def mailboxDropsSpec : ChangeSpec := { name := "mailboxDrops", fn := fun _ => fun
  | [d1, d2] => { results := [.lit (.bool true)], args := [d1, d2] }
  | _ => none }
def mailboxDropsRow : OpenClaim := { program := "ytamkkpdhponhnaa", sum := "63bb46e7946262dfa5d94ad52598bcbf32c5b0b06e03a41030f9846f8e356af3", func := "keyevent/keyeventlaw41.MailboxDrops", spec := "mailboxDrops", unfollowed := true, recurses := true, apart := false }
def MailboxDropsSaid : Prop := mailboxDropsRow.holds Try.pinned (OpenSpec.ofChange mailboxDropsSpec)

/-- ITS FALSE NEIGHBOUR: 'it returns false'. Refute it at one input. -/
def mailboxDropsWrong : ChangeSpec := { name := "mailboxDrops", fn := fun _ => fun
  | [d1, d2] => { results := [.lit (.bool false)], args := [d1, d2] }
  | _ => none }
def MailboxDropsWrongFalsely : Prop := mailboxDropsRow.holds Try.pinned (OpenSpec.ofChange mailboxDropsWrong)

/- THE SECOND FORM. 'bulk': how many values and letters a reading holds, each counted each time it is reached (what is shared counts as often as it is met; a slice's spare places count too). A statement '..UptoSaid' is the law's where the arguments, and the package variables that the reading takes, are together of bulk at most 1048576: NARROWER than '..Said'. Prove '..Said' where nothing that the law and all that it calls make is longer than what came in: it says more and counts as full. Else prove '..UptoSaid'. A law counts once. -/
mutual
def uptoBulk {H : Type} : DataW H → Nat
  | .lit (.string bytes) => bytes.length + 1
  | .lit _ => 1
  | .nil => 1
  | .ptr d => uptoBulk d + 1
  | .slice elems spare => uptoBulkAll elems + uptoBulkAll spare + 1
  | .agg parts => uptoBulkAll parts + 1
  | .iface _ d => uptoBulk d + 1
  | .map entries => uptoBulkEntries entries + 1
  | .held _ => 1
def uptoBulkAll {H : Type} : List (DataW H) → Nat
  | [] => 0
  | d :: r => uptoBulk d + uptoBulkAll r
def uptoBulkEntries {H : Type} : List (Lit × DataW H) → Nat
  | [] => 0
  | x :: r => uptoBulkEntry x + uptoBulkEntries r
def uptoBulkEntry {H : Type} : Lit × DataW H → Nat
  | (.string bytes, d) => bytes.length + uptoBulk d + 1
  | (_, d) => uptoBulk d + 1
 end
def uptoSmall : (H : Type) → List (DataW H) → Bool := fun _ ds => decide (uptoBulkAll ds ≤ 1048576)
def OpenSpec.upto (s : _root_.Go.ChangeSpec) : _root_.Go.OpenSpec := { _root_.Go.OpenSpec.ofChange s with cond := some uptoSmall }

/-- 'keyeventlaw41.MailboxOnce', WHERE WHAT IT READS IS OF BULK AT MOST 1048576: true; the input reads as it did. -/
def mailboxOnceUptoRow : OpenClaim := { program := "ytamkkpdhponhnaa", sum := "63bb46e7946262dfa5d94ad52598bcbf32c5b0b06e03a41030f9846f8e356af3", func := "keyevent/keyeventlaw41.MailboxOnce", spec := "mailboxOnce", unfollowed := true, recurses := true, apart := false, narrowed := true }
def MailboxOnceUptoSaid : Prop := mailboxOnceUptoRow.holds Try.pinned (OpenSpec.upto mailboxOnceSpec)

/-- 'keyeventlaw41.MailboxPages', WHERE WHAT IT READS IS OF BULK AT MOST 1048576: true; the input reads as it did. -/
def mailboxPagesUptoRow : OpenClaim := { program := "ytamkkpdhponhnaa", sum := "63bb46e7946262dfa5d94ad52598bcbf32c5b0b06e03a41030f9846f8e356af3", func := "keyevent/keyeventlaw41.MailboxPages", spec := "mailboxPages", unfollowed := true, recurses := true, apart := false, narrowed := true }
def MailboxPagesUptoSaid : Prop := mailboxPagesUptoRow.holds Try.pinned (OpenSpec.upto mailboxPagesSpec)

/-- 'keyeventlaw41.MailboxAll', WHERE WHAT IT READS IS OF BULK AT MOST 1048576: true; the input reads as it did. -/
def mailboxAllUptoRow : OpenClaim := { program := "ytamkkpdhponhnaa", sum := "63bb46e7946262dfa5d94ad52598bcbf32c5b0b06e03a41030f9846f8e356af3", func := "keyevent/keyeventlaw41.MailboxAll", spec := "mailboxAll", unfollowed := true, recurses := true, apart := false, narrowed := true }
def MailboxAllUptoSaid : Prop := mailboxAllUptoRow.holds Try.pinned (OpenSpec.upto mailboxAllSpec)

/-- 'keyeventlaw41.MailboxDrops', WHERE WHAT IT READS IS OF BULK AT MOST 1048576: true; the input reads as it did. -/
def mailboxDropsUptoRow : OpenClaim := { program := "ytamkkpdhponhnaa", sum := "63bb46e7946262dfa5d94ad52598bcbf32c5b0b06e03a41030f9846f8e356af3", func := "keyevent/keyeventlaw41.MailboxDrops", spec := "mailboxDrops", unfollowed := true, recurses := true, apart := false, narrowed := true }
def MailboxDropsUptoSaid : Prop := mailboxDropsUptoRow.holds Try.pinned (OpenSpec.upto mailboxDropsSpec)

end Rows
end Go.Proofs.Ytamkkpdhponhnaa
