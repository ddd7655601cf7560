/- The walk of towpathnum.Num. -/
import Derived.Test.YtbhdjalpkecbeaaEr
namespace Go.Proofs.Ytbhdjalpkecbeaa
set_option linter.unusedVariables false
set_option linter.unusedSimpArgs false
open Go.RowKit

theorem num_nil (w : World) : Calls Try.prog 13 #[.nilIface] w fun e w' => e = .returned (.int .i64 0) ∧ w' = w := by
  go_enter Try.func13, Try.ntmps13
  go_wp2
  go_ret
  exact ⟨rfl, rfl⟩
theorem as_errno (v : Value) (W : World) : (Instr.typeAssert (.iface 44 v) 31 44 true).run Try.prog W = .ok (.tuple #[v, .bool true]) W := by kernel_rfl
theorem num_er (k : Int) (hk : k ≠ 0) (w : World) : Calls Try.prog 13 #[er k] w fun e w' => e = .returned (.int .i64 k) ∧ w' = w := by
  have hkb : (k == 0) = false := beq_eq_false_iff_ne.2 hk
  clear hk
  have ha := as_errno (.int .i64 k) w
  go_enter Try.func13, Try.ntmps13
  go_wp2
  go_ret
  exact ⟨rfl, rfl⟩
end Go.Proofs.Ytbhdjalpkecbeaa
