/- Layer 1: what the rows' list gives, and a world that meets it. -/
import Derived.Test.YtfhdkcdhfdapbaaDoorRows
import Derived.Test.YtfhdkcdhfdapbaaDoorCards
import Derived.Test.YtfhdkcdhfdapbaaDoorTie
import Derived.Test.YtfhdkcdhfdapbaaDoorShelf
import Derived.WalkKit
import Derived.ProofKit
import Derived.OpenShut
import Derived.Deep.DeepHandedRow
import Derived.Lib.LaidTab
import Derived.Stop.LaidErr
import Derived.LaidLaws
namespace Go.Proofs.YtfhdkcdhfdapbaaDoor
set_option linter.unusedVariables false
set_option linter.unusedSimpArgs false
open Go.ChangeShapes Go.WideShapes Go.ChangeAt Go.RowKit

abbrev laidL : List (String × DataW Unit) := Rows.addrTextsUptoRow.laid
theorem gPow : Tryd.prog.globalNamed "internal/strconv.uint64pow10" = some 3 := by kernel_rfl
theorem gPowT : (Tryd.prog.globals[3]?).map (·.type) = some 125 := by kernel_rfl
theorem cPow : Tryd.prog.cellsOf 125 = 20 := by kernel_rfl
theorem cU64 : Tryd.prog.cellsOf 58 = 1 := by kernel_rfl
theorem gSyn : Tryd.prog.globalNamed "strconv.ErrSyntax" = some 0 := by kernel_rfl
theorem gSynT : (Tryd.prog.globals[0]?).map (·.type) = some 26 := by kernel_rfl
theorem gRng : Tryd.prog.globalNamed "strconv.ErrRange" = some 1 := by kernel_rfl
theorem gRngT : (Tryd.prog.globals[1]?).map (·.type) = some 26 := by kernel_rfl
def nmOf : DataW Unit → String
  | .iface n _ => n
  | _ => default
theorem rowE (u : TypeId) (h : Tryd.prog.typeName? 3 u = some (nmOf Rows.laid_strconv_ErrSyntax)) : u = 121 :=
  typeName_ptr_named (nm := "errors.errorString") (by kernel_rfl) (by kernel_rfl) (by decide) u (h.trans (congrArg some (by kernel_rfl)))

/-- What the walks need of the package-level variables. -/
structure Gd (W : World) : Prop where
  m : ∃ m, W.cell? ⟨2, 0, none⟩ = some (.int .i64 m)
  tab : Lib.TabIs Tryd.prog W "internal/strconv.uint64pow10" .u64 Lib.pow10Tab
  syn : ∃ tp p, W.cell? ⟨0, 0, none⟩ = some (.iface tp p)
  rng : ∃ tp p, W.cell? ⟨1, 0, none⟩ = some (.iface tp p)
theorem Gd.of {W : World} (h : laidMetH Tryd.prog laidL W) (hs : W.ShapedOpen Tryd.prog) : Gd W := by
  have h0 : laidMet Tryd.prog laidL W := h
  have h2 := h0.tail.tail
  have h4 := h2.tail.tail
  have h5 := h4.tail
  refine ⟨Tryd.laysM146.s1_3 W hs, ?_, ?_, ?_⟩
  · exact Lib.tabIs_of_head gPow gPowT Tryd.underlying125 Tryd.underlying58 cU64 cPow h2
  · obtain ⟨a, s, hv, -, -, -⟩ := laid_sentinel h5 gSyn gSynT Tryd.underlying26 rowE Tryd.underlying121 Tryd.underlying123 rfl rfl Tryd.underlying9 (by kernel_rfl) (by kernel_rfl)
    exact ⟨_, _, by have h0 := World.var?_cell gSyn hv 0; simpa using h0⟩
  · obtain ⟨a, s, hv, -, -, -⟩ := laid_sentinel h4 gRng gRngT Tryd.underlying26 rowE Tryd.underlying121 Tryd.underlying123 rfl rfl Tryd.underlying9 (by kernel_rfl) (by kernel_rfl)
    exact ⟨_, _, by have h0 := World.var?_cell gRng hv 0; simpa using h0⟩

abbrev rngS : ByteArray := ⟨#[118, 97, 108, 117, 101, 32, 111, 117, 116, 32, 111, 102, 32, 114, 97, 110, 103, 101]⟩
abbrev synS : ByteArray := ⟨#[105, 110, 118, 97, 108, 105, 100, 32, 115, 121, 110, 116, 97, 120]⟩
def litV : DataW Unit → Value
  | .lit (.int k n) => .int k n
  | _ => .agg #[]
def flat1 : DataW Unit → List Value
  | .agg xs => xs.map litV
  | _ => []
def flat2 : DataW Unit → List Value
  | .agg xs => xs.flatMap flat1
  | _ => []
def setG (cs : List Value) : Obj → Obj
  | .cells _ t fz => .cells cs.toArray t fz
  | o => o
noncomputable def low : Nat := (World.holding Tryd.prog default ⟨#[], #[], []⟩).heap.size
/-- A world in which the listed variables hold what their initialisers lay. -/
noncomputable def laidWorld (os : Os) : World :=
  let w0 := World.holding Tryd.prog os ⟨#[.cells #[.string rngS] 123, .cells #[.string synS] 123], #[], []⟩
  { w0 with heap := ((((((w0.heap.modify 0 (setG [.iface 121 (.pointer (some ⟨low + 1, 0, none⟩))])).modify 1 (setG [.iface 121 (.pointer (some ⟨low, 0, none⟩))])).modify 3 (setG (flat1 Rows.laid_internal_strconv_uint64pow10))).modify 4 (setG (flat1 Rows.laid_unicode_utf8_first))).modify 5 (setG (flat2 Rows.laid_unicode_utf8_acceptRanges))).modify 6 (setG (flat1 Rows.laid_math_bits_deBruijn32tab))).modify 7 (setG (flat1 Rows.laid_math_bits_deBruijn64tab)) }
set_option maxRecDepth 100000 in
theorem laid_met (os : Os) (args : Array Value) : laidMet Tryd.prog laidL ((laidWorld os).forCall (fun _ _ => 0) ⟨#[], args, []⟩).memory :=
  laidMet_of_run' 8 (by kernel_rfl) (by kernel_rfl)
end Go.Proofs.YtfhdkcdhfdapbaaDoor
