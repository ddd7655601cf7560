/-
  No cell of these rows narrows 'for every input' (looked for: loops, veiled, ifaces, maps, wideKeys, modest, calm, conditions, laid).
  DERIVED. THE GIVEN ROWS OF THIS SEAT. 7 by the template 'for every input the law returns true; each argument reads behind the call as it read before'; 0 by the template 'total and deterministic' (their statements: YtgmimindhhpkgaaTotals.lean).
  GIVEN WITH THE SEED: the statements are not yours to turn. If you find one false, say at which input.
  Laid BY PROGRAM, IN A SANDBOX (cutbox-rows.mjs): the forced cells as the released guide's own fill.sh prints them over the translation 2f20d378a58b7b9a… (all of the seat's roots in one cut). By AI agents, Wed Nov 11 2026. No macro, syntax, notation, axiom, sorry.
-/
import Derived.Test.YtgmimindhhpkgaaChecked
import GoSem.Claim
import GoSem.ClaimJoined
import GoSem.ClaimMapViews
import Derived.JoinedTies
import Derived.KernelRfl
namespace Go.Proofs.Ytgmimindhhpkgaa
/- THE CELL 'sum', in the pinned program and in every row, IS THE sha256 OF THE DUMP (.gsa) THAT YtgmimindhhpkgaaProg.lean LOADS. Nothing in Lean hashes anything: it is a label: what it is worth is what the hold of that sum in a sandbox is worth. -/
noncomputable def Try.pinned : Pinned := { name := "ytgmimindhhpkgaa", sum := "2f20d378a58b7b9a7a01f93e1bc3ff36fdc6712ee476dbb5eb78067fa55213f2", checked := Try.checked }
namespace Rows
def none {H : Type} : Left H := { results := [], args := [] }

/-- 'towpathlaw06.CodecFrames': WHATEVER THE INPUT: true; the input reads as it did. -/
def codecFramesSpec : ChangeSpec := { name := "codecFrames", fn := fun _ => fun
  | [d] => { results := [.lit (.bool true)], args := [d] }
  | _ => none }
def codecFramesRow : OpenClaim := { program := "ytgmimindhhpkgaa", sum := "2f20d378a58b7b9a7a01f93e1bc3ff36fdc6712ee476dbb5eb78067fa55213f2", func := "towpath/towpathlaw06.CodecFrames", spec := "codecFrames", apart := false }
def CodecFramesSaid : Prop := codecFramesRow.holds Try.pinned (OpenSpec.ofChange codecFramesSpec)

/-- ITS FALSE NEIGHBOUR: 'it returns false'. Refute it at one input. -/
def codecFramesWrong : ChangeSpec := { name := "codecFrames", fn := fun _ => fun
  | [d] => { results := [.lit (.bool false)], args := [d] }
  | _ => none }
def CodecFramesWrongFalsely : Prop := codecFramesRow.holds Try.pinned (OpenSpec.ofChange codecFramesWrong)

/-- 'towpathlaw06.CodecParses': WHATEVER THE INPUT: true; the input reads as it did. -/
def codecParsesSpec : ChangeSpec := { name := "codecParses", fn := fun _ => fun
  | [d] => { results := [.lit (.bool true)], args := [d] }
  | _ => none }
def codecParsesRow : OpenClaim := { program := "ytgmimindhhpkgaa", sum := "2f20d378a58b7b9a7a01f93e1bc3ff36fdc6712ee476dbb5eb78067fa55213f2", func := "towpath/towpathlaw06.CodecParses", spec := "codecParses", apart := false }
def CodecParsesSaid : Prop := codecParsesRow.holds Try.pinned (OpenSpec.ofChange codecParsesSpec)

/-- ITS FALSE NEIGHBOUR: 'it returns false'. Refute it at one input. -/
def codecParsesWrong : ChangeSpec := { name := "codecParses", fn := fun _ => fun
  | [d] => { results := [.lit (.bool false)], args := [d] }
  | _ => none }
def CodecParsesWrongFalsely : Prop := codecParsesRow.holds Try.pinned (OpenSpec.ofChange codecParsesWrong)

/-- 'towpathlaw06.CodecSlips': WHATEVER THE INPUT: true; the input reads as it did. -/
def codecSlipsSpec : ChangeSpec := { name := "codecSlips", fn := fun _ => fun
  | [d1, d2, d3] => { results := [.lit (.bool true)], args := [d1, d2, d3] }
  | _ => none }
def codecSlipsRow : OpenClaim := { program := "ytgmimindhhpkgaa", sum := "2f20d378a58b7b9a7a01f93e1bc3ff36fdc6712ee476dbb5eb78067fa55213f2", func := "towpath/towpathlaw06.CodecSlips", spec := "codecSlips", apart := false }
def CodecSlipsSaid : Prop := codecSlipsRow.holds Try.pinned (OpenSpec.ofChange codecSlipsSpec)

/-- ITS FALSE NEIGHBOUR: 'it returns false'. Refute it at one input. -/
def codecSlipsWrong : ChangeSpec := { name := "codecSlips", fn := fun _ => fun
  | [d1, d2, d3] => { results := [.lit (.bool false)], args := [d1, d2, d3] }
  | _ => none }
def CodecSlipsWrongFalsely : Prop := codecSlipsRow.holds Try.pinned (OpenSpec.ofChange codecSlipsWrong)

/-- 'towpathlaw06.CodecBack': WHATEVER THE INPUT: true; the input reads as it did. -/
def codecBackSpec : ChangeSpec := { name := "codecBack", fn := fun _ => fun
  | [d1, d2] => { results := [.lit (.bool true)], args := [d1, d2] }
  | _ => none }
def codecBackRow : OpenClaim := { program := "ytgmimindhhpkgaa", sum := "2f20d378a58b7b9a7a01f93e1bc3ff36fdc6712ee476dbb5eb78067fa55213f2", func := "towpath/towpathlaw06.CodecBack", spec := "codecBack", apart := false }
def CodecBackSaid : Prop := codecBackRow.holds Try.pinned (OpenSpec.ofChange codecBackSpec)

/-- ITS FALSE NEIGHBOUR: 'it returns false'. Refute it at one input. -/
def codecBackWrong : ChangeSpec := { name := "codecBack", fn := fun _ => fun
  | [d1, d2] => { results := [.lit (.bool false)], args := [d1, d2] }
  | _ => none }
def CodecBackWrongFalsely : Prop := codecBackRow.holds Try.pinned (OpenSpec.ofChange codecBackWrong)

/-- 'towpathlaw06.CodecSames': WHATEVER THE INPUT: true; the input reads as it did. -/
def codecSamesSpec : ChangeSpec := { name := "codecSames", fn := fun _ => fun
  | [d1, d2] => { results := [.lit (.bool true)], args := [d1, d2] }
  | _ => none }
def codecSamesRow : OpenClaim := { program := "ytgmimindhhpkgaa", sum := "2f20d378a58b7b9a7a01f93e1bc3ff36fdc6712ee476dbb5eb78067fa55213f2", func := "towpath/towpathlaw06.CodecSames", spec := "codecSames", apart := false }
def CodecSamesSaid : Prop := codecSamesRow.holds Try.pinned (OpenSpec.ofChange codecSamesSpec)

/-- ITS FALSE NEIGHBOUR: 'it returns false'. Refute it at one input. -/
def codecSamesWrong : ChangeSpec := { name := "codecSames", fn := fun _ => fun
  | [d1, d2] => { results := [.lit (.bool false)], args := [d1, d2] }
  | _ => none }
def CodecSamesWrongFalsely : Prop := codecSamesRow.holds Try.pinned (OpenSpec.ofChange codecSamesWrong)

/-- 'towpathlaw06.CodecApart': WHATEVER THE INPUT: true; the input reads as it did. -/
def codecApartSpec : ChangeSpec := { name := "codecApart", fn := fun _ => fun
  | [d1, d2] => { results := [.lit (.bool true)], args := [d1, d2] }
  | _ => none }
def codecApartRow : OpenClaim := { program := "ytgmimindhhpkgaa", sum := "2f20d378a58b7b9a7a01f93e1bc3ff36fdc6712ee476dbb5eb78067fa55213f2", func := "towpath/towpathlaw06.CodecApart", spec := "codecApart", apart := false }
def CodecApartSaid : Prop := codecApartRow.holds Try.pinned (OpenSpec.ofChange codecApartSpec)

/-- ITS FALSE NEIGHBOUR: 'it returns false'. Refute it at one input. -/
def codecApartWrong : ChangeSpec := { name := "codecApart", fn := fun _ => fun
  | [d1, d2] => { results := [.lit (.bool false)], args := [d1, d2] }
  | _ => none }
def CodecApartWrongFalsely : Prop := codecApartRow.holds Try.pinned (OpenSpec.ofChange codecApartWrong)

/-- 'towpathlaw06.CodecFlows': WHATEVER THE INPUT: true; the input reads as it did. -/
def codecFlowsSpec : ChangeSpec := { name := "codecFlows", fn := fun _ => fun
  | [d1, d2] => { results := [.lit (.bool true)], args := [d1, d2] }
  | _ => none }
def codecFlowsRow : OpenClaim := { program := "ytgmimindhhpkgaa", sum := "2f20d378a58b7b9a7a01f93e1bc3ff36fdc6712ee476dbb5eb78067fa55213f2", func := "towpath/towpathlaw06.CodecFlows", spec := "codecFlows", unfollowed := true, recurses := true, apart := false }
def CodecFlowsSaid : Prop := codecFlowsRow.holds Try.pinned (OpenSpec.ofChange codecFlowsSpec)

/-- ITS FALSE NEIGHBOUR: 'it returns false'. Refute it at one input. -/
def codecFlowsWrong : ChangeSpec := { name := "codecFlows", fn := fun _ => fun
  | [d1, d2] => { results := [.lit (.bool false)], args := [d1, d2] }
  | _ => none }
def CodecFlowsWrongFalsely : Prop := codecFlowsRow.holds Try.pinned (OpenSpec.ofChange codecFlowsWrong)

/- THE SECOND FORM. 'bulk': how many values and letters a reading holds, each counted each time it is reached (what is shared counts as often as it is met; a slice's spare places count too). A statement '..UptoSaid' is the law's where the arguments, and the package variables that the reading takes, are together of bulk at most 1048576: NARROWER than '..Said'. Prove '..Said' where nothing that the law and all that it calls make is longer than what came in: it says more and counts as full. Else prove '..UptoSaid'. A law counts once. -/
mutual
def uptoBulk {H : Type} : DataW H → Nat
  | .lit (.string bytes) => bytes.length + 1
  | .lit _ => 1
  | .nil => 1
  | .ptr d => uptoBulk d + 1
  | .slice elems spare => uptoBulkAll elems + uptoBulkAll spare + 1
  | .agg parts => uptoBulkAll parts + 1
  | .iface _ d => uptoBulk d + 1
  | .map entries => uptoBulkEntries entries + 1
  | .held _ => 1
def uptoBulkAll {H : Type} : List (DataW H) → Nat
  | [] => 0
  | d :: r => uptoBulk d + uptoBulkAll r
def uptoBulkEntries {H : Type} : List (Lit × DataW H) → Nat
  | [] => 0
  | x :: r => uptoBulkEntry x + uptoBulkEntries r
def uptoBulkEntry {H : Type} : Lit × DataW H → Nat
  | (.string bytes, d) => bytes.length + uptoBulk d + 1
  | (_, d) => uptoBulk d + 1
 end
def uptoSmall : (H : Type) → List (DataW H) → Bool := fun _ ds => decide (uptoBulkAll ds ≤ 1048576)
def OpenSpec.upto (s : _root_.Go.ChangeSpec) : _root_.Go.OpenSpec := { _root_.Go.OpenSpec.ofChange s with cond := some uptoSmall }

/-- 'towpathlaw06.CodecFrames', WHERE WHAT IT READS IS OF BULK AT MOST 1048576: true; the input reads as it did. -/
def codecFramesUptoRow : OpenClaim := { program := "ytgmimindhhpkgaa", sum := "2f20d378a58b7b9a7a01f93e1bc3ff36fdc6712ee476dbb5eb78067fa55213f2", func := "towpath/towpathlaw06.CodecFrames", spec := "codecFrames", apart := false, narrowed := true }
def CodecFramesUptoSaid : Prop := codecFramesUptoRow.holds Try.pinned (OpenSpec.upto codecFramesSpec)

/-- 'towpathlaw06.CodecParses', WHERE WHAT IT READS IS OF BULK AT MOST 1048576: true; the input reads as it did. -/
def codecParsesUptoRow : OpenClaim := { program := "ytgmimindhhpkgaa", sum := "2f20d378a58b7b9a7a01f93e1bc3ff36fdc6712ee476dbb5eb78067fa55213f2", func := "towpath/towpathlaw06.CodecParses", spec := "codecParses", apart := false, narrowed := true }
def CodecParsesUptoSaid : Prop := codecParsesUptoRow.holds Try.pinned (OpenSpec.upto codecParsesSpec)

/-- 'towpathlaw06.CodecSlips', WHERE WHAT IT READS IS OF BULK AT MOST 1048576: true; the input reads as it did. -/
def codecSlipsUptoRow : OpenClaim := { program := "ytgmimindhhpkgaa", sum := "2f20d378a58b7b9a7a01f93e1bc3ff36fdc6712ee476dbb5eb78067fa55213f2", func := "towpath/towpathlaw06.CodecSlips", spec := "codecSlips", apart := false, narrowed := true }
def CodecSlipsUptoSaid : Prop := codecSlipsUptoRow.holds Try.pinned (OpenSpec.upto codecSlipsSpec)

/-- 'towpathlaw06.CodecBack', WHERE WHAT IT READS IS OF BULK AT MOST 1048576: true; the input reads as it did. -/
def codecBackUptoRow : OpenClaim := { program := "ytgmimindhhpkgaa", sum := "2f20d378a58b7b9a7a01f93e1bc3ff36fdc6712ee476dbb5eb78067fa55213f2", func := "towpath/towpathlaw06.CodecBack", spec := "codecBack", apart := false, narrowed := true }
def CodecBackUptoSaid : Prop := codecBackUptoRow.holds Try.pinned (OpenSpec.upto codecBackSpec)

/-- 'towpathlaw06.CodecSames', WHERE WHAT IT READS IS OF BULK AT MOST 1048576: true; the input reads as it did. -/
def codecSamesUptoRow : OpenClaim := { program := "ytgmimindhhpkgaa", sum := "2f20d378a58b7b9a7a01f93e1bc3ff36fdc6712ee476dbb5eb78067fa55213f2", func := "towpath/towpathlaw06.CodecSames", spec := "codecSames", apart := false, narrowed := true }
def CodecSamesUptoSaid : Prop := codecSamesUptoRow.holds Try.pinned (OpenSpec.upto codecSamesSpec)

/-- 'towpathlaw06.CodecApart', WHERE WHAT IT READS IS OF BULK AT MOST 1048576: true; the input reads as it did. -/
def codecApartUptoRow : OpenClaim := { program := "ytgmimindhhpkgaa", sum := "2f20d378a58b7b9a7a01f93e1bc3ff36fdc6712ee476dbb5eb78067fa55213f2", func := "towpath/towpathlaw06.CodecApart", spec := "codecApart", apart := false, narrowed := true }
def CodecApartUptoSaid : Prop := codecApartUptoRow.holds Try.pinned (OpenSpec.upto codecApartSpec)

/-- 'towpathlaw06.CodecFlows', WHERE WHAT IT READS IS OF BULK AT MOST 1048576: true; the input reads as it did. -/
def codecFlowsUptoRow : OpenClaim := { program := "ytgmimindhhpkgaa", sum := "2f20d378a58b7b9a7a01f93e1bc3ff36fdc6712ee476dbb5eb78067fa55213f2", func := "towpath/towpathlaw06.CodecFlows", spec := "codecFlows", unfollowed := true, recurses := true, apart := false, narrowed := true }
def CodecFlowsUptoSaid : Prop := codecFlowsUptoRow.holds Try.pinned (OpenSpec.upto codecFlowsSpec)

end Rows
end Go.Proofs.Ytgmimindhhpkgaa
