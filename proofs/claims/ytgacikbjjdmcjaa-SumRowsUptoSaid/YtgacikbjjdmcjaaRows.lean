/-
  No cell of these rows narrows 'for every input' (looked for: loops, veiled, ifaces, maps, wideKeys, modest, calm, conditions, laid).
  DERIVED. THE GIVEN ROWS OF THIS SEAT. 6 by the template 'for every input the law returns true; each argument reads behind the call as it read before'; 0 by the template 'total and deterministic' (their statements: YtgacikbjjdmcjaaTotals.lean).
  GIVEN WITH THE SEED: the statements are not yours to turn. If you find one false, say at which input.
  Laid BY PROGRAM, IN A SANDBOX (cutbox-rows.mjs): the forced cells as the released guide's own fill.sh prints them over the translation 41b2a7e87ce798af… (all of the seat's roots in one cut). By AI agents, Wed Nov 11 2026. No macro, syntax, notation, axiom, sorry.
-/
import Derived.Test.YtgacikbjjdmcjaaChecked
import GoSem.Claim
import GoSem.ClaimJoined
import GoSem.ClaimMapViews
import Derived.JoinedTies
import Derived.KernelRfl
namespace Go.Proofs.Ytgacikbjjdmcjaa
/- THE CELL 'sum', in the pinned program and in every row, IS THE sha256 OF THE DUMP (.gsa) THAT YtgacikbjjdmcjaaProg.lean LOADS. Nothing in Lean hashes anything: it is a label: what it is worth is what the hold of that sum in a sandbox is worth. -/
noncomputable def Try.pinned : Pinned := { name := "ytgacikbjjdmcjaa", sum := "41b2a7e87ce798afa8e669a61fede546085687c95003aa64393fcb1010230e6f", checked := Try.checked }
namespace Rows
def none {H : Type} : Left H := { results := [], args := [] }

/-- 'towpathlaw02.SumChanges': WHATEVER THE INPUT: true; the input reads as it did. -/
def sumChangesSpec : ChangeSpec := { name := "sumChanges", fn := fun _ => fun
  | [d1, d2, d3] => { results := [.lit (.bool true)], args := [d1, d2, d3] }
  | _ => none }
def sumChangesRow : OpenClaim := { program := "ytgacikbjjdmcjaa", sum := "41b2a7e87ce798afa8e669a61fede546085687c95003aa64393fcb1010230e6f", func := "towpath/towpathlaw02.SumChanges", spec := "sumChanges", apart := false }
def SumChangesSaid : Prop := sumChangesRow.holds Try.pinned (OpenSpec.ofChange sumChangesSpec)

/-- ITS FALSE NEIGHBOUR: 'it returns false'. Refute it at one input. -/
def sumChangesWrong : ChangeSpec := { name := "sumChanges", fn := fun _ => fun
  | [d1, d2, d3] => { results := [.lit (.bool false)], args := [d1, d2, d3] }
  | _ => none }
def SumChangesWrongFalsely : Prop := sumChangesRow.holds Try.pinned (OpenSpec.ofChange sumChangesWrong)

/-- 'towpathlaw02.SumChecks': WHATEVER THE INPUT: true; the input reads as it did. -/
def sumChecksSpec : ChangeSpec := { name := "sumChecks", fn := fun _ => fun
  | [d1, d2] => { results := [.lit (.bool true)], args := [d1, d2] }
  | _ => none }
def sumChecksRow : OpenClaim := { program := "ytgacikbjjdmcjaa", sum := "41b2a7e87ce798afa8e669a61fede546085687c95003aa64393fcb1010230e6f", func := "towpath/towpathlaw02.SumChecks", spec := "sumChecks", apart := false }
def SumChecksSaid : Prop := sumChecksRow.holds Try.pinned (OpenSpec.ofChange sumChecksSpec)

/-- ITS FALSE NEIGHBOUR: 'it returns false'. Refute it at one input. -/
def sumChecksWrong : ChangeSpec := { name := "sumChecks", fn := fun _ => fun
  | [d1, d2] => { results := [.lit (.bool false)], args := [d1, d2] }
  | _ => none }
def SumChecksWrongFalsely : Prop := sumChecksRow.holds Try.pinned (OpenSpec.ofChange sumChecksWrong)

/-- 'towpathlaw02.SumParts': WHATEVER THE INPUT: true; the input reads as it did. -/
def sumPartsSpec : ChangeSpec := { name := "sumParts", fn := fun _ => fun
  | [d1, d2] => { results := [.lit (.bool true)], args := [d1, d2] }
  | _ => none }
def sumPartsRow : OpenClaim := { program := "ytgacikbjjdmcjaa", sum := "41b2a7e87ce798afa8e669a61fede546085687c95003aa64393fcb1010230e6f", func := "towpath/towpathlaw02.SumParts", spec := "sumParts", apart := false }
def SumPartsSaid : Prop := sumPartsRow.holds Try.pinned (OpenSpec.ofChange sumPartsSpec)

/-- ITS FALSE NEIGHBOUR: 'it returns false'. Refute it at one input. -/
def sumPartsWrong : ChangeSpec := { name := "sumParts", fn := fun _ => fun
  | [d1, d2] => { results := [.lit (.bool false)], args := [d1, d2] }
  | _ => none }
def SumPartsWrongFalsely : Prop := sumPartsRow.holds Try.pinned (OpenSpec.ofChange sumPartsWrong)

/-- 'towpathlaw02.SumSlips': WHATEVER THE INPUT: true; the input reads as it did. -/
def sumSlipsSpec : ChangeSpec := { name := "sumSlips", fn := fun _ => fun
  | [d1, d2, d3] => { results := [.lit (.bool true)], args := [d1, d2, d3] }
  | _ => none }
def sumSlipsRow : OpenClaim := { program := "ytgacikbjjdmcjaa", sum := "41b2a7e87ce798afa8e669a61fede546085687c95003aa64393fcb1010230e6f", func := "towpath/towpathlaw02.SumSlips", spec := "sumSlips", apart := false }
def SumSlipsSaid : Prop := sumSlipsRow.holds Try.pinned (OpenSpec.ofChange sumSlipsSpec)

/-- ITS FALSE NEIGHBOUR: 'it returns false'. Refute it at one input. -/
def sumSlipsWrong : ChangeSpec := { name := "sumSlips", fn := fun _ => fun
  | [d1, d2, d3] => { results := [.lit (.bool false)], args := [d1, d2, d3] }
  | _ => none }
def SumSlipsWrongFalsely : Prop := sumSlipsRow.holds Try.pinned (OpenSpec.ofChange sumSlipsWrong)

/-- 'towpathlaw02.SumSums': WHATEVER THE INPUT: true; the input reads as it did. -/
def sumSumsSpec : ChangeSpec := { name := "sumSums", fn := fun _ => fun
  | [d1, d2, d3] => { results := [.lit (.bool true)], args := [d1, d2, d3] }
  | _ => none }
def sumSumsRow : OpenClaim := { program := "ytgacikbjjdmcjaa", sum := "41b2a7e87ce798afa8e669a61fede546085687c95003aa64393fcb1010230e6f", func := "towpath/towpathlaw02.SumSums", spec := "sumSums", apart := false }
def SumSumsSaid : Prop := sumSumsRow.holds Try.pinned (OpenSpec.ofChange sumSumsSpec)

/-- ITS FALSE NEIGHBOUR: 'it returns false'. Refute it at one input. -/
def sumSumsWrong : ChangeSpec := { name := "sumSums", fn := fun _ => fun
  | [d1, d2, d3] => { results := [.lit (.bool false)], args := [d1, d2, d3] }
  | _ => none }
def SumSumsWrongFalsely : Prop := sumSumsRow.holds Try.pinned (OpenSpec.ofChange sumSumsWrong)

/-- 'towpathlaw02.SumRows': WHATEVER THE INPUT: true; the input reads as it did. -/
def sumRowsSpec : ChangeSpec := { name := "sumRows", fn := fun _ => fun
  | [d] => { results := [.lit (.bool true)], args := [d] }
  | _ => none }
def sumRowsRow : OpenClaim := { program := "ytgacikbjjdmcjaa", sum := "41b2a7e87ce798afa8e669a61fede546085687c95003aa64393fcb1010230e6f", func := "towpath/towpathlaw02.SumRows", spec := "sumRows", apart := false }
def SumRowsSaid : Prop := sumRowsRow.holds Try.pinned (OpenSpec.ofChange sumRowsSpec)

/-- ITS FALSE NEIGHBOUR: 'it returns false'. Refute it at one input. -/
def sumRowsWrong : ChangeSpec := { name := "sumRows", fn := fun _ => fun
  | [d] => { results := [.lit (.bool false)], args := [d] }
  | _ => none }
def SumRowsWrongFalsely : Prop := sumRowsRow.holds Try.pinned (OpenSpec.ofChange sumRowsWrong)

/- THE SECOND FORM. 'bulk': how many values and letters a reading holds, each counted each time it is reached (what is shared counts as often as it is met; a slice's spare places count too). A statement '..UptoSaid' is the law's where the arguments, and the package variables that the reading takes, are together of bulk at most 1048576: NARROWER than '..Said'. Prove '..Said' where nothing that the law and all that it calls make is longer than what came in: it says more and counts as full. Else prove '..UptoSaid'. A law counts once. -/
mutual
def uptoBulk {H : Type} : DataW H → Nat
  | .lit (.string bytes) => bytes.length + 1
  | .lit _ => 1
  | .nil => 1
  | .ptr d => uptoBulk d + 1
  | .slice elems spare => uptoBulkAll elems + uptoBulkAll spare + 1
  | .agg parts => uptoBulkAll parts + 1
  | .iface _ d => uptoBulk d + 1
  | .map entries => uptoBulkEntries entries + 1
  | .held _ => 1
def uptoBulkAll {H : Type} : List (DataW H) → Nat
  | [] => 0
  | d :: r => uptoBulk d + uptoBulkAll r
def uptoBulkEntries {H : Type} : List (Lit × DataW H) → Nat
  | [] => 0
  | x :: r => uptoBulkEntry x + uptoBulkEntries r
def uptoBulkEntry {H : Type} : Lit × DataW H → Nat
  | (.string bytes, d) => bytes.length + uptoBulk d + 1
  | (_, d) => uptoBulk d + 1
 end
def uptoSmall : (H : Type) → List (DataW H) → Bool := fun _ ds => decide (uptoBulkAll ds ≤ 1048576)
def OpenSpec.upto (s : _root_.Go.ChangeSpec) : _root_.Go.OpenSpec := { _root_.Go.OpenSpec.ofChange s with cond := some uptoSmall }

/-- 'towpathlaw02.SumChanges', WHERE WHAT IT READS IS OF BULK AT MOST 1048576: true; the input reads as it did. -/
def sumChangesUptoRow : OpenClaim := { program := "ytgacikbjjdmcjaa", sum := "41b2a7e87ce798afa8e669a61fede546085687c95003aa64393fcb1010230e6f", func := "towpath/towpathlaw02.SumChanges", spec := "sumChanges", apart := false, narrowed := true }
def SumChangesUptoSaid : Prop := sumChangesUptoRow.holds Try.pinned (OpenSpec.upto sumChangesSpec)

/-- 'towpathlaw02.SumChecks', WHERE WHAT IT READS IS OF BULK AT MOST 1048576: true; the input reads as it did. -/
def sumChecksUptoRow : OpenClaim := { program := "ytgacikbjjdmcjaa", sum := "41b2a7e87ce798afa8e669a61fede546085687c95003aa64393fcb1010230e6f", func := "towpath/towpathlaw02.SumChecks", spec := "sumChecks", apart := false, narrowed := true }
def SumChecksUptoSaid : Prop := sumChecksUptoRow.holds Try.pinned (OpenSpec.upto sumChecksSpec)

/-- 'towpathlaw02.SumParts', WHERE WHAT IT READS IS OF BULK AT MOST 1048576: true; the input reads as it did. -/
def sumPartsUptoRow : OpenClaim := { program := "ytgacikbjjdmcjaa", sum := "41b2a7e87ce798afa8e669a61fede546085687c95003aa64393fcb1010230e6f", func := "towpath/towpathlaw02.SumParts", spec := "sumParts", apart := false, narrowed := true }
def SumPartsUptoSaid : Prop := sumPartsUptoRow.holds Try.pinned (OpenSpec.upto sumPartsSpec)

/-- 'towpathlaw02.SumSlips', WHERE WHAT IT READS IS OF BULK AT MOST 1048576: true; the input reads as it did. -/
def sumSlipsUptoRow : OpenClaim := { program := "ytgacikbjjdmcjaa", sum := "41b2a7e87ce798afa8e669a61fede546085687c95003aa64393fcb1010230e6f", func := "towpath/towpathlaw02.SumSlips", spec := "sumSlips", apart := false, narrowed := true }
def SumSlipsUptoSaid : Prop := sumSlipsUptoRow.holds Try.pinned (OpenSpec.upto sumSlipsSpec)

/-- 'towpathlaw02.SumSums', WHERE WHAT IT READS IS OF BULK AT MOST 1048576: true; the input reads as it did. -/
def sumSumsUptoRow : OpenClaim := { program := "ytgacikbjjdmcjaa", sum := "41b2a7e87ce798afa8e669a61fede546085687c95003aa64393fcb1010230e6f", func := "towpath/towpathlaw02.SumSums", spec := "sumSums", apart := false, narrowed := true }
def SumSumsUptoSaid : Prop := sumSumsUptoRow.holds Try.pinned (OpenSpec.upto sumSumsSpec)

/-- 'towpathlaw02.SumRows', WHERE WHAT IT READS IS OF BULK AT MOST 1048576: true; the input reads as it did. -/
def sumRowsUptoRow : OpenClaim := { program := "ytgacikbjjdmcjaa", sum := "41b2a7e87ce798afa8e669a61fede546085687c95003aa64393fcb1010230e6f", func := "towpath/towpathlaw02.SumRows", spec := "sumRows", apart := false, narrowed := true }
def SumRowsUptoSaid : Prop := sumRowsUptoRow.holds Try.pinned (OpenSpec.upto sumRowsSpec)

end Rows
end Go.Proofs.Ytgacikbjjdmcjaa
