/- The fixed fact of layer 2's laws. -/
import Derived.Test.YtgacikbjjdmcjaaRefSum
namespace Go.Proofs.Ytgacikbjjdmcjaa
set_option linter.unusedVariables false
set_option linter.unusedSimpArgs false
open Go.RowKit

def al0 : List UInt8 := [0, 1, 242, 3, 244, 245, 246, 247]
def al1 : List UInt8 := [49, 50, 51, 52]
def al2 : List UInt8 := [53, 54, 55, 56, 57]
theorem al_sum : cks [al0].flatten = 8717 := by decide +kernel
theorem al_crc : crc [al1, al2].flatten = 3421780262 := by decide +kernel
theorem al_upd : upd 56623 [(21845, 12933)] = 0 := by decide +kernel

set_option maxHeartbeats 800000 in
theorem alive_any (w : World) : Calls Try.prog 9 #[] w fun e w' => e = .returned (.bool true) ∧ Below w.heap.size w w' := by
  have kc := run_const (P := Try.prog) _ _ Try.underlying30 Try.underlying5
  go_enter Try.func9, Try.ntmps9
  go_wp2_with fail
  refine (sum_any [al0] _ _ _ ?c0 (by decide) (by decide)).mono ?_
  case c0 => exact rp1 _ _ _ 8 al0 (by decide) (rb_new _ _ al0 rfl) (by simp)
  rintro e w1 ⟨rfl, rfl⟩
  rw [al_sum]
  go_wp2_with fail
  refine (check_any [al1, al2] _ _ _ ?c1 (by decide) (by decide)).mono ?_
  case c1 => exact rp2 _ _ _ _ 4 5 al1 al2 (by decide) (by decide) ((rb_mark _ _ _ al1 (by simp)).below ((Below.refl _ _).alloc (Nat.le_refl _) _)) (rb_mark _ _ _ al2 (by simp)) (by simp)
  rintro e w1 ⟨rfl, rfl⟩
  rw [al_crc]
  go_wp2_with fail
  refine (update_any 56623 [(21845, 12933)] _ _ _ (by omega) ?c3 (by decide)).mono ?_
  case c3 => exact RQ.mk (by decide) (rc_at _ [.int .u16 21845, .int .u16 12933] _ _ (by simp))
  rintro e w1 ⟨rfl, hb⟩
  rw [al_upd]
  go_wp2_with fail
  go_ret
  exact ⟨rfl, (((((((Below.refl _ _).alloc (Nat.le_refl _) _).alloc (by simp) _).alloc (by simp; omega) _).alloc (by simp; omega) _).alloc (by simp; omega) _).alloc (by simp; omega) _).trans (hb.mono (by simp; omega))⟩
end Go.Proofs.Ytgacikbjjdmcjaa
