/- Errors as values; the walk of towpathnum.Num. -/
import Derived.Test.YtbhdjalpkecbeaaProg
import Derived.Test.YtbhdjalpkecbeaaApp
import Derived.Lib.IfaceEq
namespace Go.Proofs.Ytbhdjalpkecbeaa
set_option linter.unusedVariables false
set_option linter.unusedSimpArgs false
open Go.RowKit

/-- An error of the program's. -/
abbrev er (k : Int) : Value := .iface 44 (.int .i64 k)
theorem er_eql (a b : Int) (W : World) : (binOp .eql 31 (.iface 44 (.int .i64 a)) (.iface 44 (.int .i64 b))).run Try.prog W = .ok (.bool (a == b)) W :=
  Lib.run_eql_iface_int W a b (q := .i64) Try.underlying31 (by kernel_rfl) Try.underlying44
theorem blk3 {w : World} {g : Nat} {t : TypeId} {a b c : Value} (h : Blk w g t [a, b, c]) : w.cell? ⟨g, 0, none⟩ = some a ∧ w.cell? ⟨g, 1, none⟩ = some b ∧ w.cell? ⟨g, 2, none⟩ = some c :=
  ⟨h.cell 0, h.cell 1, h.cell 2⟩

theorem num_nil (w : World) : Calls Try.prog 13 #[.nilIface] w fun e w' => e = .returned (.int .i64 0) ∧ w' = w := by
  go_enter Try.func13, Try.ntmps13
  go_wp2
  go_ret
  exact ⟨rfl, rfl⟩
theorem as_errno (v : Value) (W : World) : (Instr.typeAssert (.iface 44 v) 31 44 true).run Try.prog W = .ok (.tuple #[v, .bool true]) W := by kernel_rfl
theorem num_er (k : Int) (hk : k ≠ 0) (w : World) : Calls Try.prog 13 #[er k] w fun e w' => e = .returned (.int .i64 k) ∧ w' = w := by
  have hkb : (k == 0) = false := beq_eq_false_iff_ne.2 hk
  clear hk
  have ha := as_errno (.int .i64 k) w
  go_enter Try.func13, Try.ntmps13
  go_wp2
  go_ret
  exact ⟨rfl, rfl⟩
end Go.Proofs.Ytbhdjalpkecbeaa
