/-
  No cell of these rows narrows 'for every input' (looked for: loops, veiled, ifaces, maps, wideKeys, modest, calm, conditions, laid).
  DERIVED. THE GIVEN ROWS OF THIS SEAT. 6 by the template 'for every input the law returns true; each argument reads behind the call as it read before'; 0 by the template 'total and deterministic' (their statements: YtppgplchfigndaaTotals.lean).
  GIVEN WITH THE SEED: the statements are not yours to turn. If you find one false, say at which input.
  Laid BY PROGRAM, IN A SANDBOX (cutbox-rows.mjs): the forced cells as the released guide's own fill.sh prints them over the translation 59354f3aef103260… (all of the seat's roots in one cut). By AI agents, Wed Nov 11 2026. No macro, syntax, notation, axiom, sorry.
-/
import Derived.Test.YtppgplchfigndaaChecked
import GoSem.Claim
import GoSem.ClaimJoined
import GoSem.ClaimMapViews
import Derived.JoinedTies
import Derived.KernelRfl
namespace Go.Proofs.Ytppgplchfigndaa
/- THE CELL 'sum', in the pinned program and in every row, IS THE sha256 OF THE DUMP (.gsa) THAT YtppgplchfigndaaProg.lean LOADS. Nothing in Lean hashes anything: it is a label: what it is worth is what the hold of that sum in a sandbox is worth. -/
noncomputable def Try.pinned : Pinned := { name := "ytppgplchfigndaa", sum := "59354f3aef103260b92fa22d09edbc6668917f342bfff639db47144454ed8f0a", checked := Try.checked }
namespace Rows
def none {H : Type} : Left H := { results := [], args := [] }

/-- 'towpathlaw03.PacketBuilds': WHATEVER THE INPUT: true; the input reads as it did. -/
def packetBuildsSpec : ChangeSpec := { name := "packetBuilds", fn := fun _ => fun
  | [d] => { results := [.lit (.bool true)], args := [d] }
  | _ => none }
def packetBuildsRow : OpenClaim := { program := "ytppgplchfigndaa", sum := "59354f3aef103260b92fa22d09edbc6668917f342bfff639db47144454ed8f0a", func := "towpath/towpathlaw03.PacketBuilds", spec := "packetBuilds", unfollowed := true, recurses := true, apart := false }
def PacketBuildsSaid : Prop := packetBuildsRow.holds Try.pinned (OpenSpec.ofChange packetBuildsSpec)

/-- ITS FALSE NEIGHBOUR: 'it returns false'. Refute it at one input. -/
def packetBuildsWrong : ChangeSpec := { name := "packetBuilds", fn := fun _ => fun
  | [d] => { results := [.lit (.bool false)], args := [d] }
  | _ => none }
def PacketBuildsWrongFalsely : Prop := packetBuildsRow.holds Try.pinned (OpenSpec.ofChange packetBuildsWrong)

/-- 'towpathlaw03.PacketBack': WHATEVER THE INPUT: true; the input reads as it did. -/
def packetBackSpec : ChangeSpec := { name := "packetBack", fn := fun _ => fun
  | [d1, d2] => { results := [.lit (.bool true)], args := [d1, d2] }
  | _ => none }
def packetBackRow : OpenClaim := { program := "ytppgplchfigndaa", sum := "59354f3aef103260b92fa22d09edbc6668917f342bfff639db47144454ed8f0a", func := "towpath/towpathlaw03.PacketBack", spec := "packetBack", unfollowed := true, recurses := true, apart := false }
def PacketBackSaid : Prop := packetBackRow.holds Try.pinned (OpenSpec.ofChange packetBackSpec)

/-- ITS FALSE NEIGHBOUR: 'it returns false'. Refute it at one input. -/
def packetBackWrong : ChangeSpec := { name := "packetBack", fn := fun _ => fun
  | [d1, d2] => { results := [.lit (.bool false)], args := [d1, d2] }
  | _ => none }
def PacketBackWrongFalsely : Prop := packetBackRow.holds Try.pinned (OpenSpec.ofChange packetBackWrong)

/-- 'towpathlaw03.PacketSlips': WHATEVER THE INPUT: true; the input reads as it did. -/
def packetSlipsSpec : ChangeSpec := { name := "packetSlips", fn := fun _ => fun
  | [d1, d2] => { results := [.lit (.bool true)], args := [d1, d2] }
  | _ => none }
def packetSlipsRow : OpenClaim := { program := "ytppgplchfigndaa", sum := "59354f3aef103260b92fa22d09edbc6668917f342bfff639db47144454ed8f0a", func := "towpath/towpathlaw03.PacketSlips", spec := "packetSlips", unfollowed := true, recurses := true, apart := false }
def PacketSlipsSaid : Prop := packetSlipsRow.holds Try.pinned (OpenSpec.ofChange packetSlipsSpec)

/-- ITS FALSE NEIGHBOUR: 'it returns false'. Refute it at one input. -/
def packetSlipsWrong : ChangeSpec := { name := "packetSlips", fn := fun _ => fun
  | [d1, d2] => { results := [.lit (.bool false)], args := [d1, d2] }
  | _ => none }
def PacketSlipsWrongFalsely : Prop := packetSlipsRow.holds Try.pinned (OpenSpec.ofChange packetSlipsWrong)

/-- 'towpathlaw03.PacketSames': WHATEVER THE INPUT: true; the input reads as it did. -/
def packetSamesSpec : ChangeSpec := { name := "packetSames", fn := fun _ => fun
  | [d1, d2] => { results := [.lit (.bool true)], args := [d1, d2] }
  | _ => none }
def packetSamesRow : OpenClaim := { program := "ytppgplchfigndaa", sum := "59354f3aef103260b92fa22d09edbc6668917f342bfff639db47144454ed8f0a", func := "towpath/towpathlaw03.PacketSames", spec := "packetSames", unfollowed := true, recurses := true, apart := false }
def PacketSamesSaid : Prop := packetSamesRow.holds Try.pinned (OpenSpec.ofChange packetSamesSpec)

/-- ITS FALSE NEIGHBOUR: 'it returns false'. Refute it at one input. -/
def packetSamesWrong : ChangeSpec := { name := "packetSames", fn := fun _ => fun
  | [d1, d2] => { results := [.lit (.bool false)], args := [d1, d2] }
  | _ => none }
def PacketSamesWrongFalsely : Prop := packetSamesRow.holds Try.pinned (OpenSpec.ofChange packetSamesWrong)

/-- 'towpathlaw03.PacketCuts': WHATEVER THE INPUT: true; the input reads as it did. -/
def packetCutsSpec : ChangeSpec := { name := "packetCuts", fn := fun _ => fun
  | [d1, d2, d3] => { results := [.lit (.bool true)], args := [d1, d2, d3] }
  | _ => none }
def packetCutsRow : OpenClaim := { program := "ytppgplchfigndaa", sum := "59354f3aef103260b92fa22d09edbc6668917f342bfff639db47144454ed8f0a", func := "towpath/towpathlaw03.PacketCuts", spec := "packetCuts", unfollowed := true, recurses := true, apart := false }
def PacketCutsSaid : Prop := packetCutsRow.holds Try.pinned (OpenSpec.ofChange packetCutsSpec)

/-- ITS FALSE NEIGHBOUR: 'it returns false'. Refute it at one input. -/
def packetCutsWrong : ChangeSpec := { name := "packetCuts", fn := fun _ => fun
  | [d1, d2, d3] => { results := [.lit (.bool false)], args := [d1, d2, d3] }
  | _ => none }
def PacketCutsWrongFalsely : Prop := packetCutsRow.holds Try.pinned (OpenSpec.ofChange packetCutsWrong)

/-- 'towpathlaw03.PacketParses': WHATEVER THE INPUT: true; the input reads as it did. -/
def packetParsesSpec : ChangeSpec := { name := "packetParses", fn := fun _ => fun
  | [d] => { results := [.lit (.bool true)], args := [d] }
  | _ => none }
def packetParsesRow : OpenClaim := { program := "ytppgplchfigndaa", sum := "59354f3aef103260b92fa22d09edbc6668917f342bfff639db47144454ed8f0a", func := "towpath/towpathlaw03.PacketParses", spec := "packetParses", unfollowed := true, recurses := true, apart := false }
def PacketParsesSaid : Prop := packetParsesRow.holds Try.pinned (OpenSpec.ofChange packetParsesSpec)

/-- ITS FALSE NEIGHBOUR: 'it returns false'. Refute it at one input. -/
def packetParsesWrong : ChangeSpec := { name := "packetParses", fn := fun _ => fun
  | [d] => { results := [.lit (.bool false)], args := [d] }
  | _ => none }
def PacketParsesWrongFalsely : Prop := packetParsesRow.holds Try.pinned (OpenSpec.ofChange packetParsesWrong)

/- THE SECOND FORM. 'bulk': how many values and letters a reading holds, each counted each time it is reached (what is shared counts as often as it is met; a slice's spare places count too). A statement '..UptoSaid' is the law's where the arguments, and the package variables that the reading takes, are together of bulk at most 1048576: NARROWER than '..Said'. Prove '..Said' where nothing that the law and all that it calls make is longer than what came in: it says more and counts as full. Else prove '..UptoSaid'. A law counts once. -/
mutual
def uptoBulk {H : Type} : DataW H → Nat
  | .lit (.string bytes) => bytes.length + 1
  | .lit _ => 1
  | .nil => 1
  | .ptr d => uptoBulk d + 1
  | .slice elems spare => uptoBulkAll elems + uptoBulkAll spare + 1
  | .agg parts => uptoBulkAll parts + 1
  | .iface _ d => uptoBulk d + 1
  | .map entries => uptoBulkEntries entries + 1
  | .held _ => 1
def uptoBulkAll {H : Type} : List (DataW H) → Nat
  | [] => 0
  | d :: r => uptoBulk d + uptoBulkAll r
def uptoBulkEntries {H : Type} : List (Lit × DataW H) → Nat
  | [] => 0
  | x :: r => uptoBulkEntry x + uptoBulkEntries r
def uptoBulkEntry {H : Type} : Lit × DataW H → Nat
  | (.string bytes, d) => bytes.length + uptoBulk d + 1
  | (_, d) => uptoBulk d + 1
 end
def uptoSmall : (H : Type) → List (DataW H) → Bool := fun _ ds => decide (uptoBulkAll ds ≤ 1048576)
def OpenSpec.upto (s : _root_.Go.ChangeSpec) : _root_.Go.OpenSpec := { _root_.Go.OpenSpec.ofChange s with cond := some uptoSmall }

/-- 'towpathlaw03.PacketBuilds', WHERE WHAT IT READS IS OF BULK AT MOST 1048576: true; the input reads as it did. -/
def packetBuildsUptoRow : OpenClaim := { program := "ytppgplchfigndaa", sum := "59354f3aef103260b92fa22d09edbc6668917f342bfff639db47144454ed8f0a", func := "towpath/towpathlaw03.PacketBuilds", spec := "packetBuilds", unfollowed := true, recurses := true, apart := false, narrowed := true }
def PacketBuildsUptoSaid : Prop := packetBuildsUptoRow.holds Try.pinned (OpenSpec.upto packetBuildsSpec)

/-- 'towpathlaw03.PacketBack', WHERE WHAT IT READS IS OF BULK AT MOST 1048576: true; the input reads as it did. -/
def packetBackUptoRow : OpenClaim := { program := "ytppgplchfigndaa", sum := "59354f3aef103260b92fa22d09edbc6668917f342bfff639db47144454ed8f0a", func := "towpath/towpathlaw03.PacketBack", spec := "packetBack", unfollowed := true, recurses := true, apart := false, narrowed := true }
def PacketBackUptoSaid : Prop := packetBackUptoRow.holds Try.pinned (OpenSpec.upto packetBackSpec)

/-- 'towpathlaw03.PacketSlips', WHERE WHAT IT READS IS OF BULK AT MOST 1048576: true; the input reads as it did. -/
def packetSlipsUptoRow : OpenClaim := { program := "ytppgplchfigndaa", sum := "59354f3aef103260b92fa22d09edbc6668917f342bfff639db47144454ed8f0a", func := "towpath/towpathlaw03.PacketSlips", spec := "packetSlips", unfollowed := true, recurses := true, apart := false, narrowed := true }
def PacketSlipsUptoSaid : Prop := packetSlipsUptoRow.holds Try.pinned (OpenSpec.upto packetSlipsSpec)

/-- 'towpathlaw03.PacketSames', WHERE WHAT IT READS IS OF BULK AT MOST 1048576: true; the input reads as it did. -/
def packetSamesUptoRow : OpenClaim := { program := "ytppgplchfigndaa", sum := "59354f3aef103260b92fa22d09edbc6668917f342bfff639db47144454ed8f0a", func := "towpath/towpathlaw03.PacketSames", spec := "packetSames", unfollowed := true, recurses := true, apart := false, narrowed := true }
def PacketSamesUptoSaid : Prop := packetSamesUptoRow.holds Try.pinned (OpenSpec.upto packetSamesSpec)

/-- 'towpathlaw03.PacketCuts', WHERE WHAT IT READS IS OF BULK AT MOST 1048576: true; the input reads as it did. -/
def packetCutsUptoRow : OpenClaim := { program := "ytppgplchfigndaa", sum := "59354f3aef103260b92fa22d09edbc6668917f342bfff639db47144454ed8f0a", func := "towpath/towpathlaw03.PacketCuts", spec := "packetCuts", unfollowed := true, recurses := true, apart := false, narrowed := true }
def PacketCutsUptoSaid : Prop := packetCutsUptoRow.holds Try.pinned (OpenSpec.upto packetCutsSpec)

/-- 'towpathlaw03.PacketParses', WHERE WHAT IT READS IS OF BULK AT MOST 1048576: true; the input reads as it did. -/
def packetParsesUptoRow : OpenClaim := { program := "ytppgplchfigndaa", sum := "59354f3aef103260b92fa22d09edbc6668917f342bfff639db47144454ed8f0a", func := "towpath/towpathlaw03.PacketParses", spec := "packetParses", unfollowed := true, recurses := true, apart := false, narrowed := true }
def PacketParsesUptoSaid : Prop := packetParsesUptoRow.holds Try.pinned (OpenSpec.upto packetParsesSpec)

end Rows
end Go.Proofs.Ytppgplchfigndaa
