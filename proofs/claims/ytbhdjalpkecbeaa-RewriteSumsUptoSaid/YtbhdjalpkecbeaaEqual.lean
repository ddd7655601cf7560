/- The walk of bytes.Equal. -/
import Derived.Test.YtbhdjalpkecbeaaU8
import Derived.WalkSpells
namespace Go.Proofs.Ytbhdjalpkecbeaa
set_option linter.unusedVariables false
set_option linter.unusedSimpArgs false
open Go.RowKit

set_option maxHeartbeats 400000 in
theorem equal_any (xs ys : List UInt8) (A B : Option Addr) (c d : Nat) (w : World) (hA : RB w A xs) (hB : RB w B ys) :
    Calls Try.prog 44 #[.slice A xs.length c, .slice B ys.length d] w fun e w' => e = .returned (.bool (decide (xs = ys))) ∧ w' = w := by
  have hcm := beq_bs xs ys
  have s1 := run_str (P := Try.prog) w _ _ _ Try.underlying22 Try.underlying5 Try.underlying9 _ _ c _ hA rfl
  have s2 := run_str (P := Try.prog) w _ _ _ Try.underlying22 Try.underlying5 Try.underlying9 _ _ d _ hB rfl
  go_enter Try.func44, Try.ntmps44
  go_wp2
  go_ret
  exact ⟨rfl, rfl⟩
end Go.Proofs.Ytbhdjalpkecbeaa
