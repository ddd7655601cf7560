/-
  No cell of these rows narrows 'for every input' (looked for: loops, veiled, ifaces, maps, wideKeys, modest, calm, conditions, laid).
  DERIVED. THE GIVEN ROWS OF THIS SEAT. 5 by the template 'for every input the law returns true; each argument reads behind the call as it read before'; 0 by the template 'total and deterministic' (their statements: YtjehllgipfanmaaTotals.lean).
  GIVEN WITH THE SEED: the statements are not yours to turn. If you find one false, say at which input.
  Laid BY PROGRAM, IN A SANDBOX (cutbox-rows.mjs): the forced cells as the released guide's own fill.sh prints them over the translation b60f5ec2f543b5ed… (all of the seat's roots in one cut). By AI agents, Wed Nov 11 2026. No macro, syntax, notation, axiom, sorry.
-/
import Derived.Test.YtjehllgipfanmaaChecked
import GoSem.Claim
import GoSem.ClaimJoined
import GoSem.ClaimMapViews
import Derived.JoinedTies
import Derived.KernelRfl
namespace Go.Proofs.Ytjehllgipfanmaa
/- THE CELL 'sum', in the pinned program and in every row, IS THE sha256 OF THE DUMP (.gsa) THAT YtjehllgipfanmaaProg.lean LOADS. Nothing in Lean hashes anything: it is a label: what it is worth is what the hold of that sum in a sandbox is worth. -/
noncomputable def Try.pinned : Pinned := { name := "ytjehllgipfanmaa", sum := "b60f5ec2f543b5eda1b9aafe77461d408638d93ef0f67c763db58edc70ca56c6", checked := Try.checked }
namespace Rows
def none {H : Type} : Left H := { results := [], args := [] }

/-- 'towpathlaw05.TunnelWraps': WHATEVER THE INPUT: true; the input reads as it did. -/
def tunnelWrapsSpec : ChangeSpec := { name := "tunnelWraps", fn := fun _ => fun
  | [d1, d2, d3] => { results := [.lit (.bool true)], args := [d1, d2, d3] }
  | _ => none }
def tunnelWrapsRow : OpenClaim := { program := "ytjehllgipfanmaa", sum := "b60f5ec2f543b5eda1b9aafe77461d408638d93ef0f67c763db58edc70ca56c6", func := "towpath/towpathlaw05.TunnelWraps", spec := "tunnelWraps", unfollowed := true, recurses := true, apart := false }
def TunnelWrapsSaid : Prop := tunnelWrapsRow.holds Try.pinned (OpenSpec.ofChange tunnelWrapsSpec)

/-- ITS FALSE NEIGHBOUR: 'it returns false'. Refute it at one input. -/
def tunnelWrapsWrong : ChangeSpec := { name := "tunnelWraps", fn := fun _ => fun
  | [d1, d2, d3] => { results := [.lit (.bool false)], args := [d1, d2, d3] }
  | _ => none }
def TunnelWrapsWrongFalsely : Prop := tunnelWrapsRow.holds Try.pinned (OpenSpec.ofChange tunnelWrapsWrong)

/-- 'towpathlaw05.TunnelUnwraps': WHATEVER THE INPUT: true; the input reads as it did. -/
def tunnelUnwrapsSpec : ChangeSpec := { name := "tunnelUnwraps", fn := fun _ => fun
  | [d] => { results := [.lit (.bool true)], args := [d] }
  | _ => none }
def tunnelUnwrapsRow : OpenClaim := { program := "ytjehllgipfanmaa", sum := "b60f5ec2f543b5eda1b9aafe77461d408638d93ef0f67c763db58edc70ca56c6", func := "towpath/towpathlaw05.TunnelUnwraps", spec := "tunnelUnwraps", unfollowed := true, recurses := true, apart := false }
def TunnelUnwrapsSaid : Prop := tunnelUnwrapsRow.holds Try.pinned (OpenSpec.ofChange tunnelUnwrapsSpec)

/-- ITS FALSE NEIGHBOUR: 'it returns false'. Refute it at one input. -/
def tunnelUnwrapsWrong : ChangeSpec := { name := "tunnelUnwraps", fn := fun _ => fun
  | [d] => { results := [.lit (.bool false)], args := [d] }
  | _ => none }
def TunnelUnwrapsWrongFalsely : Prop := tunnelUnwrapsRow.holds Try.pinned (OpenSpec.ofChange tunnelUnwrapsWrong)

/-- 'towpathlaw05.TunnelBack': WHATEVER THE INPUT: true; the input reads as it did. -/
def tunnelBackSpec : ChangeSpec := { name := "tunnelBack", fn := fun _ => fun
  | [d1, d2, d3] => { results := [.lit (.bool true)], args := [d1, d2, d3] }
  | _ => none }
def tunnelBackRow : OpenClaim := { program := "ytjehllgipfanmaa", sum := "b60f5ec2f543b5eda1b9aafe77461d408638d93ef0f67c763db58edc70ca56c6", func := "towpath/towpathlaw05.TunnelBack", spec := "tunnelBack", unfollowed := true, recurses := true, apart := false }
def TunnelBackSaid : Prop := tunnelBackRow.holds Try.pinned (OpenSpec.ofChange tunnelBackSpec)

/-- ITS FALSE NEIGHBOUR: 'it returns false'. Refute it at one input. -/
def tunnelBackWrong : ChangeSpec := { name := "tunnelBack", fn := fun _ => fun
  | [d1, d2, d3] => { results := [.lit (.bool false)], args := [d1, d2, d3] }
  | _ => none }
def TunnelBackWrongFalsely : Prop := tunnelBackRow.holds Try.pinned (OpenSpec.ofChange tunnelBackWrong)

/-- 'towpathlaw05.TunnelTurns': WHATEVER THE INPUT: true; the input reads as it did. -/
def tunnelTurnsSpec : ChangeSpec := { name := "tunnelTurns", fn := fun _ => fun
  | [d] => { results := [.lit (.bool true)], args := [d] }
  | _ => none }
def tunnelTurnsRow : OpenClaim := { program := "ytjehllgipfanmaa", sum := "b60f5ec2f543b5eda1b9aafe77461d408638d93ef0f67c763db58edc70ca56c6", func := "towpath/towpathlaw05.TunnelTurns", spec := "tunnelTurns", unfollowed := true, recurses := true, apart := false }
def TunnelTurnsSaid : Prop := tunnelTurnsRow.holds Try.pinned (OpenSpec.ofChange tunnelTurnsSpec)

/-- ITS FALSE NEIGHBOUR: 'it returns false'. Refute it at one input. -/
def tunnelTurnsWrong : ChangeSpec := { name := "tunnelTurns", fn := fun _ => fun
  | [d] => { results := [.lit (.bool false)], args := [d] }
  | _ => none }
def TunnelTurnsWrongFalsely : Prop := tunnelTurnsRow.holds Try.pinned (OpenSpec.ofChange tunnelTurnsWrong)

/-- 'towpathlaw05.TunnelCuts': WHATEVER THE INPUT: true; the input reads as it did. -/
def tunnelCutsSpec : ChangeSpec := { name := "tunnelCuts", fn := fun _ => fun
  | [d1, d2, d3] => { results := [.lit (.bool true)], args := [d1, d2, d3] }
  | _ => none }
def tunnelCutsRow : OpenClaim := { program := "ytjehllgipfanmaa", sum := "b60f5ec2f543b5eda1b9aafe77461d408638d93ef0f67c763db58edc70ca56c6", func := "towpath/towpathlaw05.TunnelCuts", spec := "tunnelCuts", unfollowed := true, recurses := true, apart := false }
def TunnelCutsSaid : Prop := tunnelCutsRow.holds Try.pinned (OpenSpec.ofChange tunnelCutsSpec)

/-- ITS FALSE NEIGHBOUR: 'it returns false'. Refute it at one input. -/
def tunnelCutsWrong : ChangeSpec := { name := "tunnelCuts", fn := fun _ => fun
  | [d1, d2, d3] => { results := [.lit (.bool false)], args := [d1, d2, d3] }
  | _ => none }
def TunnelCutsWrongFalsely : Prop := tunnelCutsRow.holds Try.pinned (OpenSpec.ofChange tunnelCutsWrong)

/- THE SECOND FORM. 'bulk': how many values and letters a reading holds, each counted each time it is reached (what is shared counts as often as it is met; a slice's spare places count too). A statement '..UptoSaid' is the law's where the arguments, and the package variables that the reading takes, are together of bulk at most 1048576: NARROWER than '..Said'. Prove '..Said' where nothing that the law and all that it calls make is longer than what came in: it says more and counts as full. Else prove '..UptoSaid'. A law counts once. -/
mutual
def uptoBulk {H : Type} : DataW H → Nat
  | .lit (.string bytes) => bytes.length + 1
  | .lit _ => 1
  | .nil => 1
  | .ptr d => uptoBulk d + 1
  | .slice elems spare => uptoBulkAll elems + uptoBulkAll spare + 1
  | .agg parts => uptoBulkAll parts + 1
  | .iface _ d => uptoBulk d + 1
  | .map entries => uptoBulkEntries entries + 1
  | .held _ => 1
def uptoBulkAll {H : Type} : List (DataW H) → Nat
  | [] => 0
  | d :: r => uptoBulk d + uptoBulkAll r
def uptoBulkEntries {H : Type} : List (Lit × DataW H) → Nat
  | [] => 0
  | x :: r => uptoBulkEntry x + uptoBulkEntries r
def uptoBulkEntry {H : Type} : Lit × DataW H → Nat
  | (.string bytes, d) => bytes.length + uptoBulk d + 1
  | (_, d) => uptoBulk d + 1
 end
def uptoSmall : (H : Type) → List (DataW H) → Bool := fun _ ds => decide (uptoBulkAll ds ≤ 1048576)
def OpenSpec.upto (s : _root_.Go.ChangeSpec) : _root_.Go.OpenSpec := { _root_.Go.OpenSpec.ofChange s with cond := some uptoSmall }

/-- 'towpathlaw05.TunnelWraps', WHERE WHAT IT READS IS OF BULK AT MOST 1048576: true; the input reads as it did. -/
def tunnelWrapsUptoRow : OpenClaim := { program := "ytjehllgipfanmaa", sum := "b60f5ec2f543b5eda1b9aafe77461d408638d93ef0f67c763db58edc70ca56c6", func := "towpath/towpathlaw05.TunnelWraps", spec := "tunnelWraps", unfollowed := true, recurses := true, apart := false, narrowed := true }
def TunnelWrapsUptoSaid : Prop := tunnelWrapsUptoRow.holds Try.pinned (OpenSpec.upto tunnelWrapsSpec)

/-- 'towpathlaw05.TunnelUnwraps', WHERE WHAT IT READS IS OF BULK AT MOST 1048576: true; the input reads as it did. -/
def tunnelUnwrapsUptoRow : OpenClaim := { program := "ytjehllgipfanmaa", sum := "b60f5ec2f543b5eda1b9aafe77461d408638d93ef0f67c763db58edc70ca56c6", func := "towpath/towpathlaw05.TunnelUnwraps", spec := "tunnelUnwraps", unfollowed := true, recurses := true, apart := false, narrowed := true }
def TunnelUnwrapsUptoSaid : Prop := tunnelUnwrapsUptoRow.holds Try.pinned (OpenSpec.upto tunnelUnwrapsSpec)

/-- 'towpathlaw05.TunnelBack', WHERE WHAT IT READS IS OF BULK AT MOST 1048576: true; the input reads as it did. -/
def tunnelBackUptoRow : OpenClaim := { program := "ytjehllgipfanmaa", sum := "b60f5ec2f543b5eda1b9aafe77461d408638d93ef0f67c763db58edc70ca56c6", func := "towpath/towpathlaw05.TunnelBack", spec := "tunnelBack", unfollowed := true, recurses := true, apart := false, narrowed := true }
def TunnelBackUptoSaid : Prop := tunnelBackUptoRow.holds Try.pinned (OpenSpec.upto tunnelBackSpec)

/-- 'towpathlaw05.TunnelTurns', WHERE WHAT IT READS IS OF BULK AT MOST 1048576: true; the input reads as it did. -/
def tunnelTurnsUptoRow : OpenClaim := { program := "ytjehllgipfanmaa", sum := "b60f5ec2f543b5eda1b9aafe77461d408638d93ef0f67c763db58edc70ca56c6", func := "towpath/towpathlaw05.TunnelTurns", spec := "tunnelTurns", unfollowed := true, recurses := true, apart := false, narrowed := true }
def TunnelTurnsUptoSaid : Prop := tunnelTurnsUptoRow.holds Try.pinned (OpenSpec.upto tunnelTurnsSpec)

/-- 'towpathlaw05.TunnelCuts', WHERE WHAT IT READS IS OF BULK AT MOST 1048576: true; the input reads as it did. -/
def tunnelCutsUptoRow : OpenClaim := { program := "ytjehllgipfanmaa", sum := "b60f5ec2f543b5eda1b9aafe77461d408638d93ef0f67c763db58edc70ca56c6", func := "towpath/towpathlaw05.TunnelCuts", spec := "tunnelCuts", unfollowed := true, recurses := true, apart := false, narrowed := true }
def TunnelCutsUptoSaid : Prop := tunnelCutsUptoRow.holds Try.pinned (OpenSpec.upto tunnelCutsSpec)

end Rows
end Go.Proofs.Ytjehllgipfanmaa
