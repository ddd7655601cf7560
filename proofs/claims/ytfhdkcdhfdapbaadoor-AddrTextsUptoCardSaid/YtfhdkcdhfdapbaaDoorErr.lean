/- The walk of towpathnum.Num. -/
import Derived.Test.YtfhdkcdhfdapbaaDoorEr
namespace Go.Proofs.YtfhdkcdhfdapbaaDoor
set_option linter.unusedVariables false
set_option linter.unusedSimpArgs false
open Go.RowKit

theorem num_nil (w : World) : Calls Tryd.prog 14 #[.nilIface] w fun e w' => e = .returned (.int .i64 0) ∧ w' = w := by
  go_enter Tryd.func14, Tryd.ntmps14
  go_wp2
  go_ret
  exact ⟨rfl, rfl⟩
theorem as_errno (v : Value) (W : World) : (Instr.typeAssert (.iface 36 v) 26 36 true).run Tryd.prog W = .ok (.tuple #[v, .bool true]) W := by kernel_rfl
theorem num_er (k : Int) (hk : k ≠ 0) (w : World) : Calls Tryd.prog 14 #[er k] w fun e w' => e = .returned (.int .i64 k) ∧ w' = w := by
  have hkb : (k == 0) = false := beq_eq_false_iff_ne.2 hk
  clear hk
  have ha := as_errno (.int .i64 k) w
  go_enter Tryd.func14, Tryd.ntmps14
  go_wp2
  go_ret
  exact ⟨rfl, rfl⟩
end Go.Proofs.YtfhdkcdhfdapbaaDoor
