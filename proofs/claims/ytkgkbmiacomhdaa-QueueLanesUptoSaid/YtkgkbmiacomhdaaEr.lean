/- Errors as values. -/
import Derived.Test.YtkgkbmiacomhdaaProg
import Derived.Test.YtkgkbmiacomhdaaApp
import Derived.Lib.IfaceEq
namespace Go.Proofs.Ytkgkbmiacomhdaa
set_option linter.unusedVariables false
set_option linter.unusedSimpArgs false
open Go.RowKit

/-- An error of the program's. -/
abbrev er (k : Int) : Value := .iface 30 (.int .i64 k)
theorem er_eql (a b : Int) (W : World) : (binOp .eql 26 (.iface 30 (.int .i64 a)) (.iface 30 (.int .i64 b))).run Try.prog W = .ok (.bool (a == b)) W :=
  Lib.run_eql_iface_int W a b (q := .i64) Try.underlying26 (by kernel_rfl) Try.underlying30
theorem blk3 {w : World} {g : Nat} {t : TypeId} {a b c : Value} (h : Blk w g t [a, b, c]) : w.cell? ⟨g, 0, none⟩ = some a ∧ w.cell? ⟨g, 1, none⟩ = some b ∧ w.cell? ⟨g, 2, none⟩ = some c :=
  ⟨h.cell 0, h.cell 1, h.cell 2⟩
end Go.Proofs.Ytkgkbmiacomhdaa
