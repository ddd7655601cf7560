/-
  No cell of these rows narrows 'for every input' (looked for: loops, veiled, ifaces, maps, wideKeys, modest, calm, conditions, laid).
  DERIVED. THE GIVEN ROWS OF THIS SEAT. 6 by the template 'for every input the law returns true; each argument reads behind the call as it read before'; 0 by the template 'total and deterministic' (their statements: YtbhdjalpkecbeaaTotals.lean).
  GIVEN WITH THE SEED: the statements are not yours to turn. If you find one false, say at which input.
  Laid BY PROGRAM, IN A SANDBOX (cutbox-rows.mjs): the forced cells as the released guide's own fill.sh prints them over the translation 39b66cd07ff70b0c… (all of the seat's roots in one cut). By AI agents, Wed Nov 11 2026. No macro, syntax, notation, axiom, sorry.
-/
import Derived.Test.YtbhdjalpkecbeaaChecked
import GoSem.Claim
import GoSem.ClaimJoined
import GoSem.ClaimMapViews
import Derived.JoinedTies
import Derived.KernelRfl
namespace Go.Proofs.Ytbhdjalpkecbeaa
/- THE CELL 'sum', in the pinned program and in every row, IS THE sha256 OF THE DUMP (.gsa) THAT YtbhdjalpkecbeaaProg.lean LOADS. Nothing in Lean hashes anything: it is a label: what it is worth is what the hold of that sum in a sandbox is worth. -/
noncomputable def Try.pinned : Pinned := { name := "ytbhdjalpkecbeaa", sum := "39b66cd07ff70b0c8c86f5a159013071dbb63618541ad4030a590a3bb64564cb", checked := Try.checked }
namespace Rows
def none {H : Type} : Left H := { results := [], args := [] }

/-- 'towpathlaw04.RewriteSums': WHATEVER THE INPUT: true; the input reads as it did. -/
def rewriteSumsSpec : ChangeSpec := { name := "rewriteSums", fn := fun _ => fun
  | [d] => { results := [.lit (.bool true)], args := [d] }
  | _ => none }
def rewriteSumsRow : OpenClaim := { program := "ytbhdjalpkecbeaa", sum := "39b66cd07ff70b0c8c86f5a159013071dbb63618541ad4030a590a3bb64564cb", func := "towpath/towpathlaw04.RewriteSums", spec := "rewriteSums", unfollowed := true, recurses := true, apart := false }
def RewriteSumsSaid : Prop := rewriteSumsRow.holds Try.pinned (OpenSpec.ofChange rewriteSumsSpec)

/-- ITS FALSE NEIGHBOUR: 'it returns false'. Refute it at one input. -/
def rewriteSumsWrong : ChangeSpec := { name := "rewriteSums", fn := fun _ => fun
  | [d] => { results := [.lit (.bool false)], args := [d] }
  | _ => none }
def RewriteSumsWrongFalsely : Prop := rewriteSumsRow.holds Try.pinned (OpenSpec.ofChange rewriteSumsWrong)

/-- 'towpathlaw04.RewriteTwice': WHATEVER THE INPUT: true; the input reads as it did. -/
def rewriteTwiceSpec : ChangeSpec := { name := "rewriteTwice", fn := fun _ => fun
  | [d1, d2, d3] => { results := [.lit (.bool true)], args := [d1, d2, d3] }
  | _ => none }
def rewriteTwiceRow : OpenClaim := { program := "ytbhdjalpkecbeaa", sum := "39b66cd07ff70b0c8c86f5a159013071dbb63618541ad4030a590a3bb64564cb", func := "towpath/towpathlaw04.RewriteTwice", spec := "rewriteTwice", unfollowed := true, recurses := true, apart := false }
def RewriteTwiceSaid : Prop := rewriteTwiceRow.holds Try.pinned (OpenSpec.ofChange rewriteTwiceSpec)

/-- ITS FALSE NEIGHBOUR: 'it returns false'. Refute it at one input. -/
def rewriteTwiceWrong : ChangeSpec := { name := "rewriteTwice", fn := fun _ => fun
  | [d1, d2, d3] => { results := [.lit (.bool false)], args := [d1, d2, d3] }
  | _ => none }
def RewriteTwiceWrongFalsely : Prop := rewriteTwiceRow.holds Try.pinned (OpenSpec.ofChange rewriteTwiceWrong)

/-- 'towpathlaw04.RewriteLikes': WHATEVER THE INPUT: true; the input reads as it did. -/
def rewriteLikesSpec : ChangeSpec := { name := "rewriteLikes", fn := fun _ => fun
  | [d1, d2] => { results := [.lit (.bool true)], args := [d1, d2] }
  | _ => none }
def rewriteLikesRow : OpenClaim := { program := "ytbhdjalpkecbeaa", sum := "39b66cd07ff70b0c8c86f5a159013071dbb63618541ad4030a590a3bb64564cb", func := "towpath/towpathlaw04.RewriteLikes", spec := "rewriteLikes", unfollowed := true, recurses := true, apart := false }
def RewriteLikesSaid : Prop := rewriteLikesRow.holds Try.pinned (OpenSpec.ofChange rewriteLikesSpec)

/-- ITS FALSE NEIGHBOUR: 'it returns false'. Refute it at one input. -/
def rewriteLikesWrong : ChangeSpec := { name := "rewriteLikes", fn := fun _ => fun
  | [d1, d2] => { results := [.lit (.bool false)], args := [d1, d2] }
  | _ => none }
def RewriteLikesWrongFalsely : Prop := rewriteLikesRow.holds Try.pinned (OpenSpec.ofChange rewriteLikesWrong)

/-- 'towpathlaw04.RewriteKeeps': WHATEVER THE INPUT: true; the input reads as it did. -/
def rewriteKeepsSpec : ChangeSpec := { name := "rewriteKeeps", fn := fun _ => fun
  | [d] => { results := [.lit (.bool true)], args := [d] }
  | _ => none }
def rewriteKeepsRow : OpenClaim := { program := "ytbhdjalpkecbeaa", sum := "39b66cd07ff70b0c8c86f5a159013071dbb63618541ad4030a590a3bb64564cb", func := "towpath/towpathlaw04.RewriteKeeps", spec := "rewriteKeeps", unfollowed := true, recurses := true, apart := false }
def RewriteKeepsSaid : Prop := rewriteKeepsRow.holds Try.pinned (OpenSpec.ofChange rewriteKeepsSpec)

/-- ITS FALSE NEIGHBOUR: 'it returns false'. Refute it at one input. -/
def rewriteKeepsWrong : ChangeSpec := { name := "rewriteKeeps", fn := fun _ => fun
  | [d] => { results := [.lit (.bool false)], args := [d] }
  | _ => none }
def RewriteKeepsWrongFalsely : Prop := rewriteKeepsRow.holds Try.pinned (OpenSpec.ofChange rewriteKeepsWrong)

/-- 'towpathlaw04.RewriteSides': WHATEVER THE INPUT: true; the input reads as it did. -/
def rewriteSidesSpec : ChangeSpec := { name := "rewriteSides", fn := fun _ => fun
  | [d] => { results := [.lit (.bool true)], args := [d] }
  | _ => none }
def rewriteSidesRow : OpenClaim := { program := "ytbhdjalpkecbeaa", sum := "39b66cd07ff70b0c8c86f5a159013071dbb63618541ad4030a590a3bb64564cb", func := "towpath/towpathlaw04.RewriteSides", spec := "rewriteSides", unfollowed := true, recurses := true, apart := false }
def RewriteSidesSaid : Prop := rewriteSidesRow.holds Try.pinned (OpenSpec.ofChange rewriteSidesSpec)

/-- ITS FALSE NEIGHBOUR: 'it returns false'. Refute it at one input. -/
def rewriteSidesWrong : ChangeSpec := { name := "rewriteSides", fn := fun _ => fun
  | [d] => { results := [.lit (.bool false)], args := [d] }
  | _ => none }
def RewriteSidesWrongFalsely : Prop := rewriteSidesRow.holds Try.pinned (OpenSpec.ofChange rewriteSidesWrong)

/-- 'towpathlaw04.RewriteBack': WHATEVER THE INPUT: true; the input reads as it did. -/
def rewriteBackSpec : ChangeSpec := { name := "rewriteBack", fn := fun _ => fun
  | [d] => { results := [.lit (.bool true)], args := [d] }
  | _ => none }
def rewriteBackRow : OpenClaim := { program := "ytbhdjalpkecbeaa", sum := "39b66cd07ff70b0c8c86f5a159013071dbb63618541ad4030a590a3bb64564cb", func := "towpath/towpathlaw04.RewriteBack", spec := "rewriteBack", unfollowed := true, recurses := true, apart := false }
def RewriteBackSaid : Prop := rewriteBackRow.holds Try.pinned (OpenSpec.ofChange rewriteBackSpec)

/-- ITS FALSE NEIGHBOUR: 'it returns false'. Refute it at one input. -/
def rewriteBackWrong : ChangeSpec := { name := "rewriteBack", fn := fun _ => fun
  | [d] => { results := [.lit (.bool false)], args := [d] }
  | _ => none }
def RewriteBackWrongFalsely : Prop := rewriteBackRow.holds Try.pinned (OpenSpec.ofChange rewriteBackWrong)

/- THE SECOND FORM. 'bulk': how many values and letters a reading holds, each counted each time it is reached (what is shared counts as often as it is met; a slice's spare places count too). A statement '..UptoSaid' is the law's where the arguments, and the package variables that the reading takes, are together of bulk at most 1048576: NARROWER than '..Said'. Prove '..Said' where nothing that the law and all that it calls make is longer than what came in: it says more and counts as full. Else prove '..UptoSaid'. A law counts once. -/
mutual
def uptoBulk {H : Type} : DataW H → Nat
  | .lit (.string bytes) => bytes.length + 1
  | .lit _ => 1
  | .nil => 1
  | .ptr d => uptoBulk d + 1
  | .slice elems spare => uptoBulkAll elems + uptoBulkAll spare + 1
  | .agg parts => uptoBulkAll parts + 1
  | .iface _ d => uptoBulk d + 1
  | .map entries => uptoBulkEntries entries + 1
  | .held _ => 1
def uptoBulkAll {H : Type} : List (DataW H) → Nat
  | [] => 0
  | d :: r => uptoBulk d + uptoBulkAll r
def uptoBulkEntries {H : Type} : List (Lit × DataW H) → Nat
  | [] => 0
  | x :: r => uptoBulkEntry x + uptoBulkEntries r
def uptoBulkEntry {H : Type} : Lit × DataW H → Nat
  | (.string bytes, d) => bytes.length + uptoBulk d + 1
  | (_, d) => uptoBulk d + 1
 end
def uptoSmall : (H : Type) → List (DataW H) → Bool := fun _ ds => decide (uptoBulkAll ds ≤ 1048576)
def OpenSpec.upto (s : _root_.Go.ChangeSpec) : _root_.Go.OpenSpec := { _root_.Go.OpenSpec.ofChange s with cond := some uptoSmall }

/-- 'towpathlaw04.RewriteSums', WHERE WHAT IT READS IS OF BULK AT MOST 1048576: true; the input reads as it did. -/
def rewriteSumsUptoRow : OpenClaim := { program := "ytbhdjalpkecbeaa", sum := "39b66cd07ff70b0c8c86f5a159013071dbb63618541ad4030a590a3bb64564cb", func := "towpath/towpathlaw04.RewriteSums", spec := "rewriteSums", unfollowed := true, recurses := true, apart := false, narrowed := true }
def RewriteSumsUptoSaid : Prop := rewriteSumsUptoRow.holds Try.pinned (OpenSpec.upto rewriteSumsSpec)

/-- 'towpathlaw04.RewriteTwice', WHERE WHAT IT READS IS OF BULK AT MOST 1048576: true; the input reads as it did. -/
def rewriteTwiceUptoRow : OpenClaim := { program := "ytbhdjalpkecbeaa", sum := "39b66cd07ff70b0c8c86f5a159013071dbb63618541ad4030a590a3bb64564cb", func := "towpath/towpathlaw04.RewriteTwice", spec := "rewriteTwice", unfollowed := true, recurses := true, apart := false, narrowed := true }
def RewriteTwiceUptoSaid : Prop := rewriteTwiceUptoRow.holds Try.pinned (OpenSpec.upto rewriteTwiceSpec)

/-- 'towpathlaw04.RewriteLikes', WHERE WHAT IT READS IS OF BULK AT MOST 1048576: true; the input reads as it did. -/
def rewriteLikesUptoRow : OpenClaim := { program := "ytbhdjalpkecbeaa", sum := "39b66cd07ff70b0c8c86f5a159013071dbb63618541ad4030a590a3bb64564cb", func := "towpath/towpathlaw04.RewriteLikes", spec := "rewriteLikes", unfollowed := true, recurses := true, apart := false, narrowed := true }
def RewriteLikesUptoSaid : Prop := rewriteLikesUptoRow.holds Try.pinned (OpenSpec.upto rewriteLikesSpec)

/-- 'towpathlaw04.RewriteKeeps', WHERE WHAT IT READS IS OF BULK AT MOST 1048576: true; the input reads as it did. -/
def rewriteKeepsUptoRow : OpenClaim := { program := "ytbhdjalpkecbeaa", sum := "39b66cd07ff70b0c8c86f5a159013071dbb63618541ad4030a590a3bb64564cb", func := "towpath/towpathlaw04.RewriteKeeps", spec := "rewriteKeeps", unfollowed := true, recurses := true, apart := false, narrowed := true }
def RewriteKeepsUptoSaid : Prop := rewriteKeepsUptoRow.holds Try.pinned (OpenSpec.upto rewriteKeepsSpec)

/-- 'towpathlaw04.RewriteSides', WHERE WHAT IT READS IS OF BULK AT MOST 1048576: true; the input reads as it did. -/
def rewriteSidesUptoRow : OpenClaim := { program := "ytbhdjalpkecbeaa", sum := "39b66cd07ff70b0c8c86f5a159013071dbb63618541ad4030a590a3bb64564cb", func := "towpath/towpathlaw04.RewriteSides", spec := "rewriteSides", unfollowed := true, recurses := true, apart := false, narrowed := true }
def RewriteSidesUptoSaid : Prop := rewriteSidesUptoRow.holds Try.pinned (OpenSpec.upto rewriteSidesSpec)

/-- 'towpathlaw04.RewriteBack', WHERE WHAT IT READS IS OF BULK AT MOST 1048576: true; the input reads as it did. -/
def rewriteBackUptoRow : OpenClaim := { program := "ytbhdjalpkecbeaa", sum := "39b66cd07ff70b0c8c86f5a159013071dbb63618541ad4030a590a3bb64564cb", func := "towpath/towpathlaw04.RewriteBack", spec := "rewriteBack", unfollowed := true, recurses := true, apart := false, narrowed := true }
def RewriteBackUptoSaid : Prop := rewriteBackUptoRow.holds Try.pinned (OpenSpec.upto rewriteBackSpec)

end Rows
end Go.Proofs.Ytbhdjalpkecbeaa
