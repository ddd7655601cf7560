/-
  No cell of these rows narrows 'for every input' (looked for: loops, veiled, ifaces, maps, wideKeys, modest, calm, conditions, laid).
  DERIVED. THE GIVEN ROWS OF THIS SEAT. 5 by the template 'for every input the law returns true; each argument reads behind the call as it read before'; 0 by the template 'total and deterministic' (their statements: YtkgkbmiacomhdaaTotals.lean).
  GIVEN WITH THE SEED: the statements are not yours to turn. If you find one false, say at which input.
  Laid BY PROGRAM, IN A SANDBOX (cutbox-rows.mjs): the forced cells as the released guide's own fill.sh prints them over the translation 110797c7ce3a38c5… (all of the seat's roots in one cut). By AI agents, Wed Nov 11 2026. No macro, syntax, notation, axiom, sorry.
-/
import Derived.Test.YtkgkbmiacomhdaaChecked
import GoSem.Claim
import GoSem.ClaimJoined
import GoSem.ClaimMapViews
import Derived.JoinedTies
import Derived.KernelRfl
namespace Go.Proofs.Ytkgkbmiacomhdaa
/- THE CELL 'sum', in the pinned program and in every row, IS THE sha256 OF THE DUMP (.gsa) THAT YtkgkbmiacomhdaaProg.lean LOADS. Nothing in Lean hashes anything: it is a label: what it is worth is what the hold of that sum in a sandbox is worth. -/
noncomputable def Try.pinned : Pinned := { name := "ytkgkbmiacomhdaa", sum := "110797c7ce3a38c5dff34833c5180ac58b941c1909d60ea47e49702c94949f8f", checked := Try.checked }
namespace Rows
def none {H : Type} : Left H := { results := [], args := [] }

/-- 'towpathlaw07.QueuePlays': WHATEVER THE INPUT: true; the input reads as it did. -/
def queuePlaysSpec : ChangeSpec := { name := "queuePlays", fn := fun _ => fun
  | [d1, d2] => { results := [.lit (.bool true)], args := [d1, d2] }
  | _ => none }
def queuePlaysRow : OpenClaim := { program := "ytkgkbmiacomhdaa", sum := "110797c7ce3a38c5dff34833c5180ac58b941c1909d60ea47e49702c94949f8f", func := "towpath/towpathlaw07.QueuePlays", spec := "queuePlays", apart := false }
def QueuePlaysSaid : Prop := queuePlaysRow.holds Try.pinned (OpenSpec.ofChange queuePlaysSpec)

/-- ITS FALSE NEIGHBOUR: 'it returns false'. Refute it at one input. -/
def queuePlaysWrong : ChangeSpec := { name := "queuePlays", fn := fun _ => fun
  | [d1, d2] => { results := [.lit (.bool false)], args := [d1, d2] }
  | _ => none }
def QueuePlaysWrongFalsely : Prop := queuePlaysRow.holds Try.pinned (OpenSpec.ofChange queuePlaysWrong)

/-- 'towpathlaw07.QueueOrders': WHATEVER THE INPUT: true; the input reads as it did. -/
def queueOrdersSpec : ChangeSpec := { name := "queueOrders", fn := fun _ => fun
  | [d1, d2, d3] => { results := [.lit (.bool true)], args := [d1, d2, d3] }
  | _ => none }
def queueOrdersRow : OpenClaim := { program := "ytkgkbmiacomhdaa", sum := "110797c7ce3a38c5dff34833c5180ac58b941c1909d60ea47e49702c94949f8f", func := "towpath/towpathlaw07.QueueOrders", spec := "queueOrders", apart := false }
def QueueOrdersSaid : Prop := queueOrdersRow.holds Try.pinned (OpenSpec.ofChange queueOrdersSpec)

/-- ITS FALSE NEIGHBOUR: 'it returns false'. Refute it at one input. -/
def queueOrdersWrong : ChangeSpec := { name := "queueOrders", fn := fun _ => fun
  | [d1, d2, d3] => { results := [.lit (.bool false)], args := [d1, d2, d3] }
  | _ => none }
def QueueOrdersWrongFalsely : Prop := queueOrdersRow.holds Try.pinned (OpenSpec.ofChange queueOrdersWrong)

/-- 'towpathlaw07.QueueUrgent': WHATEVER THE INPUT: true; the input reads as it did. -/
def queueUrgentSpec : ChangeSpec := { name := "queueUrgent", fn := fun _ => fun
  | [d1, d2, d3] => { results := [.lit (.bool true)], args := [d1, d2, d3] }
  | _ => none }
def queueUrgentRow : OpenClaim := { program := "ytkgkbmiacomhdaa", sum := "110797c7ce3a38c5dff34833c5180ac58b941c1909d60ea47e49702c94949f8f", func := "towpath/towpathlaw07.QueueUrgent", spec := "queueUrgent", apart := false }
def QueueUrgentSaid : Prop := queueUrgentRow.holds Try.pinned (OpenSpec.ofChange queueUrgentSpec)

/-- ITS FALSE NEIGHBOUR: 'it returns false'. Refute it at one input. -/
def queueUrgentWrong : ChangeSpec := { name := "queueUrgent", fn := fun _ => fun
  | [d1, d2, d3] => { results := [.lit (.bool false)], args := [d1, d2, d3] }
  | _ => none }
def QueueUrgentWrongFalsely : Prop := queueUrgentRow.holds Try.pinned (OpenSpec.ofChange queueUrgentWrong)

/-- 'towpathlaw07.QueueNone': WHATEVER THE INPUT: true; the input reads as it did. -/
def queueNoneSpec : ChangeSpec := { name := "queueNone", fn := fun _ => fun
  | [d1, d2] => { results := [.lit (.bool true)], args := [d1, d2] }
  | _ => none }
def queueNoneRow : OpenClaim := { program := "ytkgkbmiacomhdaa", sum := "110797c7ce3a38c5dff34833c5180ac58b941c1909d60ea47e49702c94949f8f", func := "towpath/towpathlaw07.QueueNone", spec := "queueNone", apart := false }
def QueueNoneSaid : Prop := queueNoneRow.holds Try.pinned (OpenSpec.ofChange queueNoneSpec)

/-- ITS FALSE NEIGHBOUR: 'it returns false'. Refute it at one input. -/
def queueNoneWrong : ChangeSpec := { name := "queueNone", fn := fun _ => fun
  | [d1, d2] => { results := [.lit (.bool false)], args := [d1, d2] }
  | _ => none }
def QueueNoneWrongFalsely : Prop := queueNoneRow.holds Try.pinned (OpenSpec.ofChange queueNoneWrong)

/-- 'towpathlaw07.QueueLanes': WHATEVER THE INPUT: true; the input reads as it did. -/
def queueLanesSpec : ChangeSpec := { name := "queueLanes", fn := fun _ => fun
  | [d1, d2] => { results := [.lit (.bool true)], args := [d1, d2] }
  | _ => none }
def queueLanesRow : OpenClaim := { program := "ytkgkbmiacomhdaa", sum := "110797c7ce3a38c5dff34833c5180ac58b941c1909d60ea47e49702c94949f8f", func := "towpath/towpathlaw07.QueueLanes", spec := "queueLanes", apart := false }
def QueueLanesSaid : Prop := queueLanesRow.holds Try.pinned (OpenSpec.ofChange queueLanesSpec)

/-- ITS FALSE NEIGHBOUR: 'it returns false'. Refute it at one input. -/
def queueLanesWrong : ChangeSpec := { name := "queueLanes", fn := fun _ => fun
  | [d1, d2] => { results := [.lit (.bool false)], args := [d1, d2] }
  | _ => none }
def QueueLanesWrongFalsely : Prop := queueLanesRow.holds Try.pinned (OpenSpec.ofChange queueLanesWrong)

/- THE SECOND FORM. 'bulk': how many values and letters a reading holds, each counted each time it is reached (what is shared counts as often as it is met; a slice's spare places count too). A statement '..UptoSaid' is the law's where the arguments, and the package variables that the reading takes, are together of bulk at most 1048576: NARROWER than '..Said'. Prove '..Said' where nothing that the law and all that it calls make is longer than what came in: it says more and counts as full. Else prove '..UptoSaid'. A law counts once. -/
mutual
def uptoBulk {H : Type} : DataW H → Nat
  | .lit (.string bytes) => bytes.length + 1
  | .lit _ => 1
  | .nil => 1
  | .ptr d => uptoBulk d + 1
  | .slice elems spare => uptoBulkAll elems + uptoBulkAll spare + 1
  | .agg parts => uptoBulkAll parts + 1
  | .iface _ d => uptoBulk d + 1
  | .map entries => uptoBulkEntries entries + 1
  | .held _ => 1
def uptoBulkAll {H : Type} : List (DataW H) → Nat
  | [] => 0
  | d :: r => uptoBulk d + uptoBulkAll r
def uptoBulkEntries {H : Type} : List (Lit × DataW H) → Nat
  | [] => 0
  | x :: r => uptoBulkEntry x + uptoBulkEntries r
def uptoBulkEntry {H : Type} : Lit × DataW H → Nat
  | (.string bytes, d) => bytes.length + uptoBulk d + 1
  | (_, d) => uptoBulk d + 1
 end
def uptoSmall : (H : Type) → List (DataW H) → Bool := fun _ ds => decide (uptoBulkAll ds ≤ 1048576)
def OpenSpec.upto (s : _root_.Go.ChangeSpec) : _root_.Go.OpenSpec := { _root_.Go.OpenSpec.ofChange s with cond := some uptoSmall }

/-- 'towpathlaw07.QueuePlays', WHERE WHAT IT READS IS OF BULK AT MOST 1048576: true; the input reads as it did. -/
def queuePlaysUptoRow : OpenClaim := { program := "ytkgkbmiacomhdaa", sum := "110797c7ce3a38c5dff34833c5180ac58b941c1909d60ea47e49702c94949f8f", func := "towpath/towpathlaw07.QueuePlays", spec := "queuePlays", apart := false, narrowed := true }
def QueuePlaysUptoSaid : Prop := queuePlaysUptoRow.holds Try.pinned (OpenSpec.upto queuePlaysSpec)

/-- 'towpathlaw07.QueueOrders', WHERE WHAT IT READS IS OF BULK AT MOST 1048576: true; the input reads as it did. -/
def queueOrdersUptoRow : OpenClaim := { program := "ytkgkbmiacomhdaa", sum := "110797c7ce3a38c5dff34833c5180ac58b941c1909d60ea47e49702c94949f8f", func := "towpath/towpathlaw07.QueueOrders", spec := "queueOrders", apart := false, narrowed := true }
def QueueOrdersUptoSaid : Prop := queueOrdersUptoRow.holds Try.pinned (OpenSpec.upto queueOrdersSpec)

/-- 'towpathlaw07.QueueUrgent', WHERE WHAT IT READS IS OF BULK AT MOST 1048576: true; the input reads as it did. -/
def queueUrgentUptoRow : OpenClaim := { program := "ytkgkbmiacomhdaa", sum := "110797c7ce3a38c5dff34833c5180ac58b941c1909d60ea47e49702c94949f8f", func := "towpath/towpathlaw07.QueueUrgent", spec := "queueUrgent", apart := false, narrowed := true }
def QueueUrgentUptoSaid : Prop := queueUrgentUptoRow.holds Try.pinned (OpenSpec.upto queueUrgentSpec)

/-- 'towpathlaw07.QueueNone', WHERE WHAT IT READS IS OF BULK AT MOST 1048576: true; the input reads as it did. -/
def queueNoneUptoRow : OpenClaim := { program := "ytkgkbmiacomhdaa", sum := "110797c7ce3a38c5dff34833c5180ac58b941c1909d60ea47e49702c94949f8f", func := "towpath/towpathlaw07.QueueNone", spec := "queueNone", apart := false, narrowed := true }
def QueueNoneUptoSaid : Prop := queueNoneUptoRow.holds Try.pinned (OpenSpec.upto queueNoneSpec)

/-- 'towpathlaw07.QueueLanes', WHERE WHAT IT READS IS OF BULK AT MOST 1048576: true; the input reads as it did. -/
def queueLanesUptoRow : OpenClaim := { program := "ytkgkbmiacomhdaa", sum := "110797c7ce3a38c5dff34833c5180ac58b941c1909d60ea47e49702c94949f8f", func := "towpath/towpathlaw07.QueueLanes", spec := "queueLanes", apart := false, narrowed := true }
def QueueLanesUptoSaid : Prop := queueLanesUptoRow.holds Try.pinned (OpenSpec.upto queueLanesSpec)

end Rows
end Go.Proofs.Ytkgkbmiacomhdaa
