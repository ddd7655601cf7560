/- The walk of slices.Clone at bytes. -/
import Derived.Test.YtkgkbmiacomhdaaU8
import Derived.WalkSpells
namespace Go.Proofs.Ytkgkbmiacomhdaa
set_option linter.unusedVariables false
set_option linter.unusedSimpArgs false
open Go.RowKit

set_option maxHeartbeats 800000 in
theorem clone_any (xs : List UInt8) (A : Option Addr) (c : Nat) (w : World) (hA : RB w A xs) (hc : xs.length ≤ c) (hn : xs.length ≤ 4000000) :
    Calls Try.prog 35 #[.slice A xs.length c] w fun e w' => ∃ v, e = .returned v ∧ w'.ownsRow w.heap.size 5 1 v xs.length (xs.map bv) ∧ Below w.heap.size w w' := by
  obtain ⟨i0, hi, hz0, hz1, hz2⟩ := info_parts info_u8
  cases A with
  | none =>
    have hx : xs = [] := by
      cases xs with
      | nil => rfl
      | cons x r => obtain ⟨_, h, _⟩ := hA 0 _ rfl; cases h
    subst hx
    have hnl := fun (W : World) (a : Option Addr) (n c : Nat) => Lib.run_eql_slice_nil (P := Try.prog) W 42 _ a n c 0 0 Try.underlying42
    go_enter Try.func35, Try.ntmps35
    go_wp2
    go_ret
    exact ⟨_, rfl, World.ownsRow_nil _ _ _ _, Below.refl _ _⟩
  | some ad =>
    have hnl := fun (W : World) (a : Option Addr) (n c : Nat) => Lib.run_eql_slice_nil (P := Try.prog) W 42 _ a n c 0 0 Try.underlying42
    go_enter Try.func35, Try.ntmps35
    go_wp2_with (at_builtin; refine wl_app _ rfl (.tmp 5) (.tmp 6) 42 rfl w.heap.size 5 i0 (.int .u8 0) 1 1 Try.underlying42 hi hz0 hz1 hz2 rfl (by omega) _ _ _ rfl (own_empty w w.heap.size 5 w.heap.size rfl (Nat.le_refl _)) (some ad) xs.length c (xs.map bv) rfl (by simp) (RB.below hA ((Below.refl _ _).alloc (Nat.le_refl _) _)) (one_bv xs) (by unfold maxLen; omega) (by omega) (by simp) ?_)
    intro v2 w2 hown2 hg2 hat2
    have hb2 : Below w.heap.size w w2 := ((Below.refl _ w).alloc (Nat.le_refl _) _).grown hg2 (by simp) (fun g hg => by simp [Value.ownBlock] at hg; omega)
    try simp only [Nat.zero_add, List.nil_append] at hown2
    clear hg2 hat2
    go_wp2
    go_ret
    exact ⟨_, rfl, hown2, hb2⟩
end Go.Proofs.Ytkgkbmiacomhdaa
