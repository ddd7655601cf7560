/-
  No cell of these rows narrows 'for every input' (looked for: loops, veiled, ifaces, maps, wideKeys, modest, calm, conditions, laid).
  DERIVED. THE GIVEN ROWS OF THIS SEAT. 6 by the template 'for every input the law returns true; each argument reads behind the call as it read before'; 0 by the template 'total and deterministic' (their statements: YtikichifdkgobaaTotals.lean).
  GIVEN WITH THE SEED: the statements are not yours to turn. If you find one false, say at which input.
  Laid BY PROGRAM, IN A SANDBOX (cutbox-rows.mjs): the forced cells as the released guide's own fill.sh prints them over the translation ab430d6e4f701f2b… (all of the seat's roots in one cut). By AI agents, Wed Nov 11 2026. No macro, syntax, notation, axiom, sorry.
-/
import Derived.Test.YtikichifdkgobaaChecked
import GoSem.Claim
import GoSem.ClaimJoined
import GoSem.ClaimMapViews
import Derived.JoinedTies
import Derived.KernelRfl
namespace Go.Proofs.Ytikichifdkgobaa
/- THE CELL 'sum', in the pinned program and in every row, IS THE sha256 OF THE DUMP (.gsa) THAT YtikichifdkgobaaProg.lean LOADS. Nothing in Lean hashes anything: it is a label: what it is worth is what the hold of that sum in a sandbox is worth. -/
noncomputable def Try.pinned : Pinned := { name := "ytikichifdkgobaa", sum := "ab430d6e4f701f2b85deca116f42dd21bb542b45bb7dc5517b32a362b1bf2be1", checked := Try.checked }
namespace Rows
def none {H : Type} : Left H := { results := [], args := [] }

/-- 'towpathlaw08.FabricTakes': WHATEVER THE INPUT: true; the input reads as it did. -/
def fabricTakesSpec : ChangeSpec := { name := "fabricTakes", fn := fun _ => fun
  | [d] => { results := [.lit (.bool true)], args := [d] }
  | _ => none }
def fabricTakesRow : OpenClaim := { program := "ytikichifdkgobaa", sum := "ab430d6e4f701f2b85deca116f42dd21bb542b45bb7dc5517b32a362b1bf2be1", func := "towpath/towpathlaw08.FabricTakes", spec := "fabricTakes", apart := false }
def FabricTakesSaid : Prop := fabricTakesRow.holds Try.pinned (OpenSpec.ofChange fabricTakesSpec)

/-- ITS FALSE NEIGHBOUR: 'it returns false'. Refute it at one input. -/
def fabricTakesWrong : ChangeSpec := { name := "fabricTakes", fn := fun _ => fun
  | [d] => { results := [.lit (.bool false)], args := [d] }
  | _ => none }
def FabricTakesWrongFalsely : Prop := fabricTakesRow.holds Try.pinned (OpenSpec.ofChange fabricTakesWrong)

/-- 'towpathlaw08.FabricFills': WHATEVER THE INPUT: true; the input reads as it did. -/
def fabricFillsSpec : ChangeSpec := { name := "fabricFills", fn := fun _ => fun
  | [d] => { results := [.lit (.bool true)], args := [d] }
  | _ => none }
def fabricFillsRow : OpenClaim := { program := "ytikichifdkgobaa", sum := "ab430d6e4f701f2b85deca116f42dd21bb542b45bb7dc5517b32a362b1bf2be1", func := "towpath/towpathlaw08.FabricFills", spec := "fabricFills", apart := false }
def FabricFillsSaid : Prop := fabricFillsRow.holds Try.pinned (OpenSpec.ofChange fabricFillsSpec)

/-- ITS FALSE NEIGHBOUR: 'it returns false'. Refute it at one input. -/
def fabricFillsWrong : ChangeSpec := { name := "fabricFills", fn := fun _ => fun
  | [d] => { results := [.lit (.bool false)], args := [d] }
  | _ => none }
def FabricFillsWrongFalsely : Prop := fabricFillsRow.holds Try.pinned (OpenSpec.ofChange fabricFillsWrong)

/-- 'towpathlaw08.FabricEmpties': WHATEVER THE INPUT: true; the input reads as it did. -/
def fabricEmptiesSpec : ChangeSpec := { name := "fabricEmpties", fn := fun _ => fun
  | [d1, d2, d3] => { results := [.lit (.bool true)], args := [d1, d2, d3] }
  | _ => none }
def fabricEmptiesRow : OpenClaim := { program := "ytikichifdkgobaa", sum := "ab430d6e4f701f2b85deca116f42dd21bb542b45bb7dc5517b32a362b1bf2be1", func := "towpath/towpathlaw08.FabricEmpties", spec := "fabricEmpties", apart := false }
def FabricEmptiesSaid : Prop := fabricEmptiesRow.holds Try.pinned (OpenSpec.ofChange fabricEmptiesSpec)

/-- ITS FALSE NEIGHBOUR: 'it returns false'. Refute it at one input. -/
def fabricEmptiesWrong : ChangeSpec := { name := "fabricEmpties", fn := fun _ => fun
  | [d1, d2, d3] => { results := [.lit (.bool false)], args := [d1, d2, d3] }
  | _ => none }
def FabricEmptiesWrongFalsely : Prop := fabricEmptiesRow.holds Try.pinned (OpenSpec.ofChange fabricEmptiesWrong)

/-- 'towpathlaw08.FabricBetween': WHATEVER THE INPUT: true; the input reads as it did. -/
def fabricBetweenSpec : ChangeSpec := { name := "fabricBetween", fn := fun _ => fun
  | [d] => { results := [.lit (.bool true)], args := [d] }
  | _ => none }
def fabricBetweenRow : OpenClaim := { program := "ytikichifdkgobaa", sum := "ab430d6e4f701f2b85deca116f42dd21bb542b45bb7dc5517b32a362b1bf2be1", func := "towpath/towpathlaw08.FabricBetween", spec := "fabricBetween", apart := false }
def FabricBetweenSaid : Prop := fabricBetweenRow.holds Try.pinned (OpenSpec.ofChange fabricBetweenSpec)

/-- ITS FALSE NEIGHBOUR: 'it returns false'. Refute it at one input. -/
def fabricBetweenWrong : ChangeSpec := { name := "fabricBetween", fn := fun _ => fun
  | [d] => { results := [.lit (.bool false)], args := [d] }
  | _ => none }
def FabricBetweenWrongFalsely : Prop := fabricBetweenRow.holds Try.pinned (OpenSpec.ofChange fabricBetweenWrong)

/-- 'towpathlaw08.FabricPlays': WHATEVER THE INPUT: true; the input reads as it did. -/
def fabricPlaysSpec : ChangeSpec := { name := "fabricPlays", fn := fun _ => fun
  | [d] => { results := [.lit (.bool true)], args := [d] }
  | _ => none }
def fabricPlaysRow : OpenClaim := { program := "ytikichifdkgobaa", sum := "ab430d6e4f701f2b85deca116f42dd21bb542b45bb7dc5517b32a362b1bf2be1", func := "towpath/towpathlaw08.FabricPlays", spec := "fabricPlays", apart := false }
def FabricPlaysSaid : Prop := fabricPlaysRow.holds Try.pinned (OpenSpec.ofChange fabricPlaysSpec)

/-- ITS FALSE NEIGHBOUR: 'it returns false'. Refute it at one input. -/
def fabricPlaysWrong : ChangeSpec := { name := "fabricPlays", fn := fun _ => fun
  | [d] => { results := [.lit (.bool false)], args := [d] }
  | _ => none }
def FabricPlaysWrongFalsely : Prop := fabricPlaysRow.holds Try.pinned (OpenSpec.ofChange fabricPlaysWrong)

/-- 'towpathlaw08.FabricNone': WHATEVER THE INPUT: true; the input reads as it did. -/
def fabricNoneSpec : ChangeSpec := { name := "fabricNone", fn := fun _ => fun
  | [d1, d2] => { results := [.lit (.bool true)], args := [d1, d2] }
  | _ => none }
def fabricNoneRow : OpenClaim := { program := "ytikichifdkgobaa", sum := "ab430d6e4f701f2b85deca116f42dd21bb542b45bb7dc5517b32a362b1bf2be1", func := "towpath/towpathlaw08.FabricNone", spec := "fabricNone", apart := false }
def FabricNoneSaid : Prop := fabricNoneRow.holds Try.pinned (OpenSpec.ofChange fabricNoneSpec)

/-- ITS FALSE NEIGHBOUR: 'it returns false'. Refute it at one input. -/
def fabricNoneWrong : ChangeSpec := { name := "fabricNone", fn := fun _ => fun
  | [d1, d2] => { results := [.lit (.bool false)], args := [d1, d2] }
  | _ => none }
def FabricNoneWrongFalsely : Prop := fabricNoneRow.holds Try.pinned (OpenSpec.ofChange fabricNoneWrong)

/- THE SECOND FORM. 'bulk': how many values and letters a reading holds, each counted each time it is reached (what is shared counts as often as it is met; a slice's spare places count too). A statement '..UptoSaid' is the law's where the arguments, and the package variables that the reading takes, are together of bulk at most 1048576: NARROWER than '..Said'. Prove '..Said' where nothing that the law and all that it calls make is longer than what came in: it says more and counts as full. Else prove '..UptoSaid'. A law counts once. -/
mutual
def uptoBulk {H : Type} : DataW H → Nat
  | .lit (.string bytes) => bytes.length + 1
  | .lit _ => 1
  | .nil => 1
  | .ptr d => uptoBulk d + 1
  | .slice elems spare => uptoBulkAll elems + uptoBulkAll spare + 1
  | .agg parts => uptoBulkAll parts + 1
  | .iface _ d => uptoBulk d + 1
  | .map entries => uptoBulkEntries entries + 1
  | .held _ => 1
def uptoBulkAll {H : Type} : List (DataW H) → Nat
  | [] => 0
  | d :: r => uptoBulk d + uptoBulkAll r
def uptoBulkEntries {H : Type} : List (Lit × DataW H) → Nat
  | [] => 0
  | x :: r => uptoBulkEntry x + uptoBulkEntries r
def uptoBulkEntry {H : Type} : Lit × DataW H → Nat
  | (.string bytes, d) => bytes.length + uptoBulk d + 1
  | (_, d) => uptoBulk d + 1
 end
def uptoSmall : (H : Type) → List (DataW H) → Bool := fun _ ds => decide (uptoBulkAll ds ≤ 1048576)
def OpenSpec.upto (s : _root_.Go.ChangeSpec) : _root_.Go.OpenSpec := { _root_.Go.OpenSpec.ofChange s with cond := some uptoSmall }

/-- 'towpathlaw08.FabricTakes', WHERE WHAT IT READS IS OF BULK AT MOST 1048576: true; the input reads as it did. -/
def fabricTakesUptoRow : OpenClaim := { program := "ytikichifdkgobaa", sum := "ab430d6e4f701f2b85deca116f42dd21bb542b45bb7dc5517b32a362b1bf2be1", func := "towpath/towpathlaw08.FabricTakes", spec := "fabricTakes", apart := false, narrowed := true }
def FabricTakesUptoSaid : Prop := fabricTakesUptoRow.holds Try.pinned (OpenSpec.upto fabricTakesSpec)

/-- 'towpathlaw08.FabricFills', WHERE WHAT IT READS IS OF BULK AT MOST 1048576: true; the input reads as it did. -/
def fabricFillsUptoRow : OpenClaim := { program := "ytikichifdkgobaa", sum := "ab430d6e4f701f2b85deca116f42dd21bb542b45bb7dc5517b32a362b1bf2be1", func := "towpath/towpathlaw08.FabricFills", spec := "fabricFills", apart := false, narrowed := true }
def FabricFillsUptoSaid : Prop := fabricFillsUptoRow.holds Try.pinned (OpenSpec.upto fabricFillsSpec)

/-- 'towpathlaw08.FabricEmpties', WHERE WHAT IT READS IS OF BULK AT MOST 1048576: true; the input reads as it did. -/
def fabricEmptiesUptoRow : OpenClaim := { program := "ytikichifdkgobaa", sum := "ab430d6e4f701f2b85deca116f42dd21bb542b45bb7dc5517b32a362b1bf2be1", func := "towpath/towpathlaw08.FabricEmpties", spec := "fabricEmpties", apart := false, narrowed := true }
def FabricEmptiesUptoSaid : Prop := fabricEmptiesUptoRow.holds Try.pinned (OpenSpec.upto fabricEmptiesSpec)

/-- 'towpathlaw08.FabricBetween', WHERE WHAT IT READS IS OF BULK AT MOST 1048576: true; the input reads as it did. -/
def fabricBetweenUptoRow : OpenClaim := { program := "ytikichifdkgobaa", sum := "ab430d6e4f701f2b85deca116f42dd21bb542b45bb7dc5517b32a362b1bf2be1", func := "towpath/towpathlaw08.FabricBetween", spec := "fabricBetween", apart := false, narrowed := true }
def FabricBetweenUptoSaid : Prop := fabricBetweenUptoRow.holds Try.pinned (OpenSpec.upto fabricBetweenSpec)

/-- 'towpathlaw08.FabricPlays', WHERE WHAT IT READS IS OF BULK AT MOST 1048576: true; the input reads as it did. -/
def fabricPlaysUptoRow : OpenClaim := { program := "ytikichifdkgobaa", sum := "ab430d6e4f701f2b85deca116f42dd21bb542b45bb7dc5517b32a362b1bf2be1", func := "towpath/towpathlaw08.FabricPlays", spec := "fabricPlays", apart := false, narrowed := true }
def FabricPlaysUptoSaid : Prop := fabricPlaysUptoRow.holds Try.pinned (OpenSpec.upto fabricPlaysSpec)

/-- 'towpathlaw08.FabricNone', WHERE WHAT IT READS IS OF BULK AT MOST 1048576: true; the input reads as it did. -/
def fabricNoneUptoRow : OpenClaim := { program := "ytikichifdkgobaa", sum := "ab430d6e4f701f2b85deca116f42dd21bb542b45bb7dc5517b32a362b1bf2be1", func := "towpath/towpathlaw08.FabricNone", spec := "fabricNone", apart := false, narrowed := true }
def FabricNoneUptoSaid : Prop := fabricNoneUptoRow.holds Try.pinned (OpenSpec.upto fabricNoneSpec)

end Rows
end Go.Proofs.Ytikichifdkgobaa
