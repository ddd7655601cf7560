/- The walks of addr.Node and addr.Kind. -/
import Derived.Test.YtfhdkcdhfdapbaaDoorEr
import Derived.WalkSpells
namespace Go.Proofs.YtfhdkcdhfdapbaaDoor
set_option linter.unusedVariables false
set_option linter.unusedSimpArgs false
open Go.RowKit

/-- Is it a node? -/
def IsN (n : Int) : Prop := n = 0 ∨ (16 ≤ n ∧ n ≤ 23) ∨ (32 ≤ n ∧ n ≤ 39) ∨ (48 ≤ n ∧ n ≤ 55)
/-- A node's kind. -/
def kindOf (n : Int) : Int := if n < 16 then 0 else if n < 32 then 16 else if n < 48 then 32 else 48
set_option maxHeartbeats 400000 in
theorem node_router (p : Int) (w : World) (h : p = 0) : Calls Tryd.prog 22 #[.int .i64 0, .int .i64 p] w fun e w' => e = .returned (.tuple #[.int .i64 0, .nilIface]) ∧ w' = w := by
  subst h
  go_enter Tryd.func22, Tryd.ntmps22
  go_wp2
  go_ret2
  exact ⟨rfl, rfl⟩
set_option maxHeartbeats 400000 in
theorem node_router_no (p : Int) (w : World) (h : p ≠ 0) : Calls Tryd.prog 22 #[.int .i64 0, .int .i64 p] w fun e w' => e = .returned (.tuple #[.int .i64 0, er 12]) ∧ w' = w := by
  have h0 : (p == 0) = false := beq_eq_false_iff_ne.2 h
  clear h
  go_enter Tryd.func22, Tryd.ntmps22
  go_wp2
  go_ret2
  exact ⟨rfl, rfl⟩
set_option maxHeartbeats 400000 in
theorem node_16 (p : Int) (w : World) (h : 0 ≤ p ∧ p < 8) : Calls Tryd.prog 22 #[.int .i64 16, .int .i64 p] w fun e w' => e = .returned (.tuple #[.int .i64 (16 + p), .nilIface]) ∧ w' = w := by
  obtain ⟨h1, h2⟩ := h
  go_enter Tryd.func22, Tryd.ntmps22
  go_wp2
  go_ret2
  exact ⟨rfl, rfl⟩
set_option maxHeartbeats 400000 in
theorem node_16_no (p : Int) (w : World) (h : p < 0 ∨ 8 ≤ p) : Calls Tryd.prog 22 #[.int .i64 16, .int .i64 p] w fun e w' => e = .returned (.tuple #[.int .i64 0, er 12]) ∧ w' = w := by
  rcases h with h | h
  · have f1 : decide (0 ≤ p) = false := by simp; omega
    go_enter Tryd.func22, Tryd.ntmps22
    go_wp2
    go_ret2
    exact ⟨rfl, rfl⟩
  · have f1 : decide (0 ≤ p) = true := by simp; omega
    have f2 : decide (p < 8) = false := by simp; omega
    go_enter Tryd.func22, Tryd.ntmps22
    go_wp2
    go_ret2
    exact ⟨rfl, rfl⟩
set_option maxHeartbeats 400000 in
theorem node_32 (p : Int) (w : World) (h : 0 ≤ p ∧ p < 8) : Calls Tryd.prog 22 #[.int .i64 32, .int .i64 p] w fun e w' => e = .returned (.tuple #[.int .i64 (32 + p), .nilIface]) ∧ w' = w := by
  obtain ⟨h1, h2⟩ := h
  go_enter Tryd.func22, Tryd.ntmps22
  go_wp2
  go_ret2
  exact ⟨rfl, rfl⟩
set_option maxHeartbeats 400000 in
theorem node_32_no (p : Int) (w : World) (h : p < 0 ∨ 8 ≤ p) : Calls Tryd.prog 22 #[.int .i64 32, .int .i64 p] w fun e w' => e = .returned (.tuple #[.int .i64 0, er 12]) ∧ w' = w := by
  rcases h with h | h
  · have f1 : decide (0 ≤ p) = false := by simp; omega
    go_enter Tryd.func22, Tryd.ntmps22
    go_wp2
    go_ret2
    exact ⟨rfl, rfl⟩
  · have f1 : decide (0 ≤ p) = true := by simp; omega
    have f2 : decide (p < 8) = false := by simp; omega
    go_enter Tryd.func22, Tryd.ntmps22
    go_wp2
    go_ret2
    exact ⟨rfl, rfl⟩
set_option maxHeartbeats 400000 in
theorem node_48 (p : Int) (w : World) (h : 0 ≤ p ∧ p < 8) : Calls Tryd.prog 22 #[.int .i64 48, .int .i64 p] w fun e w' => e = .returned (.tuple #[.int .i64 (48 + p), .nilIface]) ∧ w' = w := by
  obtain ⟨h1, h2⟩ := h
  go_enter Tryd.func22, Tryd.ntmps22
  go_wp2
  go_ret2
  exact ⟨rfl, rfl⟩
set_option maxHeartbeats 400000 in
theorem node_48_no (p : Int) (w : World) (h : p < 0 ∨ 8 ≤ p) : Calls Tryd.prog 22 #[.int .i64 48, .int .i64 p] w fun e w' => e = .returned (.tuple #[.int .i64 0, er 12]) ∧ w' = w := by
  rcases h with h | h
  · have f1 : decide (0 ≤ p) = false := by simp; omega
    go_enter Tryd.func22, Tryd.ntmps22
    go_wp2
    go_ret2
    exact ⟨rfl, rfl⟩
  · have f1 : decide (0 ≤ p) = true := by simp; omega
    have f2 : decide (p < 8) = false := by simp; omega
    go_enter Tryd.func22, Tryd.ntmps22
    go_wp2
    go_ret2
    exact ⟨rfl, rfl⟩
set_option maxHeartbeats 800000 in
theorem kind_neg (n : Int) (w : World) (h : n < 0) : Calls Tryd.prog 23 #[.int .i64 n] w fun e w' => e = .returned (.tuple #[.int .i64 0, .int .i64 0, .bool false]) ∧ w' = w := by
  have a0 : decide (n < 0) = true := by simp; omega
  have a16 : decide (n < 16) = true := by simp; omega
  have a32 : decide (n < 32) = true := by simp; omega
  have a48 : decide (n < 48) = true := by simp; omega
  have b8 : decide (8 ≤ n) = false := by simp; omega
  have b24 : decide (24 ≤ n) = false := by simp; omega
  have b40 : decide (40 ≤ n) = false := by simp; omega
  have b56 : decide (56 ≤ n) = false := by simp; omega
  have HH := Lib.hid h
  have hb1 : -100 ≤ n ∨ n < -100 := by omega
  have i0 : ∀ W : World, (Instr.index 74 (.agg #[.int .i64 0, .int .i64 16, .int .i64 32, .int .i64 48]) (.int .i64 0)).run Tryd.prog W = .ok (.int .i64 0) W := fun _ => by kernel_rfl
  have i1 : ∀ W : World, (Instr.index 74 (.agg #[.int .i64 0, .int .i64 16, .int .i64 32, .int .i64 48]) (.int .i64 1)).run Tryd.prog W = .ok (.int .i64 16) W := fun _ => by kernel_rfl
  have i2 : ∀ W : World, (Instr.index 74 (.agg #[.int .i64 0, .int .i64 16, .int .i64 32, .int .i64 48]) (.int .i64 2)).run Tryd.prog W = .ok (.int .i64 32) W := fun _ => by kernel_rfl
  have i3 : ∀ W : World, (Instr.index 74 (.agg #[.int .i64 0, .int .i64 16, .int .i64 32, .int .i64 48]) (.int .i64 3)).run Tryd.prog W = .ok (.int .i64 48) W := fun _ => by kernel_rfl
  go_enter Tryd.func23, Tryd.ntmps23
  go_wp2_with fail
  refine wp_loop_rounds 5 ?_
  rw [rounds_succ]
  go_wp2_with fail
  rw [rounds_succ]
  go_wp2_with fail
  rw [rounds_succ]
  go_wp2_with fail
  rw [rounds_succ]
  go_wp2_with fail
  rw [rounds_succ]
  go_wp2_with fail
  go_ret3
  exact ⟨rfl, rfl⟩
set_option maxHeartbeats 800000 in
theorem kind_0 (n : Int) (w : World) (h : 0 ≤ n ∧ n ≤ 0) : Calls Tryd.prog 23 #[.int .i64 n] w fun e w' => e = .returned (.tuple #[.int .i64 0, .int .i64 n, .bool true]) ∧ w' = w := by
  have a0 : decide (n < 0) = false := by simp; omega
  have a16 : decide (n < 16) = true := by simp; omega
  have a32 : decide (n < 32) = true := by simp; omega
  have a48 : decide (n < 48) = true := by simp; omega
  have b8 : decide (8 ≤ n) = false := by simp; omega
  have b24 : decide (24 ≤ n) = false := by simp; omega
  have b40 : decide (40 ≤ n) = false := by simp; omega
  have b56 : decide (56 ≤ n) = false := by simp; omega
  have HH := Lib.hid h
  have hb1 : -100 ≤ n ∨ n < -100 := by omega
  have i0 : ∀ W : World, (Instr.index 74 (.agg #[.int .i64 0, .int .i64 16, .int .i64 32, .int .i64 48]) (.int .i64 0)).run Tryd.prog W = .ok (.int .i64 0) W := fun _ => by kernel_rfl
  have i1 : ∀ W : World, (Instr.index 74 (.agg #[.int .i64 0, .int .i64 16, .int .i64 32, .int .i64 48]) (.int .i64 1)).run Tryd.prog W = .ok (.int .i64 16) W := fun _ => by kernel_rfl
  have i2 : ∀ W : World, (Instr.index 74 (.agg #[.int .i64 0, .int .i64 16, .int .i64 32, .int .i64 48]) (.int .i64 2)).run Tryd.prog W = .ok (.int .i64 32) W := fun _ => by kernel_rfl
  have i3 : ∀ W : World, (Instr.index 74 (.agg #[.int .i64 0, .int .i64 16, .int .i64 32, .int .i64 48]) (.int .i64 3)).run Tryd.prog W = .ok (.int .i64 48) W := fun _ => by kernel_rfl
  go_enter Tryd.func23, Tryd.ntmps23
  go_wp2_with fail
  refine wp_loop_rounds 5 ?_
  rw [rounds_succ]
  go_wp2_with fail
  (with_reducible refine (node_router n w (by have := HH.out; omega)).mono ?_)
  rintro e w1 ⟨rfl, rfl⟩
  go_wp2_with fail
  go_ret3
  exact ⟨rfl, rfl⟩
set_option maxHeartbeats 800000 in
theorem kind_1 (n : Int) (w : World) (h : 1 ≤ n ∧ n ≤ 7) : Calls Tryd.prog 23 #[.int .i64 n] w fun e w' => e = .returned (.tuple #[.int .i64 0, .int .i64 0, .bool false]) ∧ w' = w := by
  have a0 : decide (n < 0) = false := by simp; omega
  have a16 : decide (n < 16) = true := by simp; omega
  have a32 : decide (n < 32) = true := by simp; omega
  have a48 : decide (n < 48) = true := by simp; omega
  have b8 : decide (8 ≤ n) = false := by simp; omega
  have b24 : decide (24 ≤ n) = false := by simp; omega
  have b40 : decide (40 ≤ n) = false := by simp; omega
  have b56 : decide (56 ≤ n) = false := by simp; omega
  have HH := Lib.hid h
  have hb1 : -100 ≤ n ∨ n < -100 := by omega
  have i0 : ∀ W : World, (Instr.index 74 (.agg #[.int .i64 0, .int .i64 16, .int .i64 32, .int .i64 48]) (.int .i64 0)).run Tryd.prog W = .ok (.int .i64 0) W := fun _ => by kernel_rfl
  have i1 : ∀ W : World, (Instr.index 74 (.agg #[.int .i64 0, .int .i64 16, .int .i64 32, .int .i64 48]) (.int .i64 1)).run Tryd.prog W = .ok (.int .i64 16) W := fun _ => by kernel_rfl
  have i2 : ∀ W : World, (Instr.index 74 (.agg #[.int .i64 0, .int .i64 16, .int .i64 32, .int .i64 48]) (.int .i64 2)).run Tryd.prog W = .ok (.int .i64 32) W := fun _ => by kernel_rfl
  have i3 : ∀ W : World, (Instr.index 74 (.agg #[.int .i64 0, .int .i64 16, .int .i64 32, .int .i64 48]) (.int .i64 3)).run Tryd.prog W = .ok (.int .i64 48) W := fun _ => by kernel_rfl
  go_enter Tryd.func23, Tryd.ntmps23
  go_wp2_with fail
  refine wp_loop_rounds 5 ?_
  rw [rounds_succ]
  go_wp2_with fail
  (with_reducible refine (node_router_no n w (by have := HH.out; omega)).mono ?_)
  rintro e w1 ⟨rfl, rfl⟩
  go_wp2_with fail
  rw [rounds_succ]
  go_wp2_with fail
  rw [rounds_succ]
  go_wp2_with fail
  rw [rounds_succ]
  go_wp2_with fail
  rw [rounds_succ]
  go_wp2_with fail
  go_ret3
  exact ⟨rfl, rfl⟩
set_option maxHeartbeats 800000 in
theorem kind_8 (n : Int) (w : World) (h : 8 ≤ n ∧ n ≤ 15) : Calls Tryd.prog 23 #[.int .i64 n] w fun e w' => e = .returned (.tuple #[.int .i64 0, .int .i64 0, .bool false]) ∧ w' = w := by
  have a0 : decide (n < 0) = false := by simp; omega
  have a16 : decide (n < 16) = true := by simp; omega
  have a32 : decide (n < 32) = true := by simp; omega
  have a48 : decide (n < 48) = true := by simp; omega
  have b8 : decide (8 ≤ n) = true := by simp; omega
  have b24 : decide (24 ≤ n) = false := by simp; omega
  have b40 : decide (40 ≤ n) = false := by simp; omega
  have b56 : decide (56 ≤ n) = false := by simp; omega
  have HH := Lib.hid h
  have hb1 : -100 ≤ n ∨ n < -100 := by omega
  have i0 : ∀ W : World, (Instr.index 74 (.agg #[.int .i64 0, .int .i64 16, .int .i64 32, .int .i64 48]) (.int .i64 0)).run Tryd.prog W = .ok (.int .i64 0) W := fun _ => by kernel_rfl
  have i1 : ∀ W : World, (Instr.index 74 (.agg #[.int .i64 0, .int .i64 16, .int .i64 32, .int .i64 48]) (.int .i64 1)).run Tryd.prog W = .ok (.int .i64 16) W := fun _ => by kernel_rfl
  have i2 : ∀ W : World, (Instr.index 74 (.agg #[.int .i64 0, .int .i64 16, .int .i64 32, .int .i64 48]) (.int .i64 2)).run Tryd.prog W = .ok (.int .i64 32) W := fun _ => by kernel_rfl
  have i3 : ∀ W : World, (Instr.index 74 (.agg #[.int .i64 0, .int .i64 16, .int .i64 32, .int .i64 48]) (.int .i64 3)).run Tryd.prog W = .ok (.int .i64 48) W := fun _ => by kernel_rfl
  go_enter Tryd.func23, Tryd.ntmps23
  go_wp2_with fail
  refine wp_loop_rounds 5 ?_
  rw [rounds_succ]
  go_wp2_with fail
  rw [rounds_succ]
  go_wp2_with fail
  rw [rounds_succ]
  go_wp2_with fail
  rw [rounds_succ]
  go_wp2_with fail
  rw [rounds_succ]
  go_wp2_with fail
  go_ret3
  exact ⟨rfl, rfl⟩
set_option maxHeartbeats 800000 in
theorem kind_16 (n : Int) (w : World) (h : 16 ≤ n ∧ n ≤ 23) : Calls Tryd.prog 23 #[.int .i64 n] w fun e w' => e = .returned (.tuple #[.int .i64 16, .int .i64 (n - 16), .bool true]) ∧ w' = w := by
  have a0 : decide (n < 0) = false := by simp; omega
  have a16 : decide (n < 16) = false := by simp; omega
  have a32 : decide (n < 32) = true := by simp; omega
  have a48 : decide (n < 48) = true := by simp; omega
  have b8 : decide (8 ≤ n) = true := by simp; omega
  have b24 : decide (24 ≤ n) = false := by simp; omega
  have b40 : decide (40 ≤ n) = false := by simp; omega
  have b56 : decide (56 ≤ n) = false := by simp; omega
  have HH := Lib.hid h
  have hb1 : -100 ≤ n ∨ n < -100 := by omega
  have i0 : ∀ W : World, (Instr.index 74 (.agg #[.int .i64 0, .int .i64 16, .int .i64 32, .int .i64 48]) (.int .i64 0)).run Tryd.prog W = .ok (.int .i64 0) W := fun _ => by kernel_rfl
  have i1 : ∀ W : World, (Instr.index 74 (.agg #[.int .i64 0, .int .i64 16, .int .i64 32, .int .i64 48]) (.int .i64 1)).run Tryd.prog W = .ok (.int .i64 16) W := fun _ => by kernel_rfl
  have i2 : ∀ W : World, (Instr.index 74 (.agg #[.int .i64 0, .int .i64 16, .int .i64 32, .int .i64 48]) (.int .i64 2)).run Tryd.prog W = .ok (.int .i64 32) W := fun _ => by kernel_rfl
  have i3 : ∀ W : World, (Instr.index 74 (.agg #[.int .i64 0, .int .i64 16, .int .i64 32, .int .i64 48]) (.int .i64 3)).run Tryd.prog W = .ok (.int .i64 48) W := fun _ => by kernel_rfl
  go_enter Tryd.func23, Tryd.ntmps23
  go_wp2_with fail
  refine wp_loop_rounds 5 ?_
  rw [rounds_succ]
  go_wp2_with fail
  rw [rounds_succ]
  go_wp2_with fail
  (with_reducible refine (node_16 (n - 16) w (by have := HH.out; omega)).mono ?_)
  rintro e w1 ⟨rfl, rfl⟩
  go_wp2_with fail
  go_ret3
  exact ⟨rfl, rfl⟩
set_option maxHeartbeats 800000 in
theorem kind_24 (n : Int) (w : World) (h : 24 ≤ n ∧ n ≤ 31) : Calls Tryd.prog 23 #[.int .i64 n] w fun e w' => e = .returned (.tuple #[.int .i64 0, .int .i64 0, .bool false]) ∧ w' = w := by
  have a0 : decide (n < 0) = false := by simp; omega
  have a16 : decide (n < 16) = false := by simp; omega
  have a32 : decide (n < 32) = true := by simp; omega
  have a48 : decide (n < 48) = true := by simp; omega
  have b8 : decide (8 ≤ n) = true := by simp; omega
  have b24 : decide (24 ≤ n) = true := by simp; omega
  have b40 : decide (40 ≤ n) = false := by simp; omega
  have b56 : decide (56 ≤ n) = false := by simp; omega
  have HH := Lib.hid h
  have hb1 : -100 ≤ n ∨ n < -100 := by omega
  have i0 : ∀ W : World, (Instr.index 74 (.agg #[.int .i64 0, .int .i64 16, .int .i64 32, .int .i64 48]) (.int .i64 0)).run Tryd.prog W = .ok (.int .i64 0) W := fun _ => by kernel_rfl
  have i1 : ∀ W : World, (Instr.index 74 (.agg #[.int .i64 0, .int .i64 16, .int .i64 32, .int .i64 48]) (.int .i64 1)).run Tryd.prog W = .ok (.int .i64 16) W := fun _ => by kernel_rfl
  have i2 : ∀ W : World, (Instr.index 74 (.agg #[.int .i64 0, .int .i64 16, .int .i64 32, .int .i64 48]) (.int .i64 2)).run Tryd.prog W = .ok (.int .i64 32) W := fun _ => by kernel_rfl
  have i3 : ∀ W : World, (Instr.index 74 (.agg #[.int .i64 0, .int .i64 16, .int .i64 32, .int .i64 48]) (.int .i64 3)).run Tryd.prog W = .ok (.int .i64 48) W := fun _ => by kernel_rfl
  go_enter Tryd.func23, Tryd.ntmps23
  go_wp2_with fail
  refine wp_loop_rounds 5 ?_
  rw [rounds_succ]
  go_wp2_with fail
  rw [rounds_succ]
  go_wp2_with fail
  rw [rounds_succ]
  go_wp2_with fail
  rw [rounds_succ]
  go_wp2_with fail
  rw [rounds_succ]
  go_wp2_with fail
  go_ret3
  exact ⟨rfl, rfl⟩
set_option maxHeartbeats 800000 in
theorem kind_32 (n : Int) (w : World) (h : 32 ≤ n ∧ n ≤ 39) : Calls Tryd.prog 23 #[.int .i64 n] w fun e w' => e = .returned (.tuple #[.int .i64 32, .int .i64 (n - 32), .bool true]) ∧ w' = w := by
  have a0 : decide (n < 0) = false := by simp; omega
  have a16 : decide (n < 16) = false := by simp; omega
  have a32 : decide (n < 32) = false := by simp; omega
  have a48 : decide (n < 48) = true := by simp; omega
  have b8 : decide (8 ≤ n) = true := by simp; omega
  have b24 : decide (24 ≤ n) = true := by simp; omega
  have b40 : decide (40 ≤ n) = false := by simp; omega
  have b56 : decide (56 ≤ n) = false := by simp; omega
  have HH := Lib.hid h
  have hb1 : -100 ≤ n ∨ n < -100 := by omega
  have i0 : ∀ W : World, (Instr.index 74 (.agg #[.int .i64 0, .int .i64 16, .int .i64 32, .int .i64 48]) (.int .i64 0)).run Tryd.prog W = .ok (.int .i64 0) W := fun _ => by kernel_rfl
  have i1 : ∀ W : World, (Instr.index 74 (.agg #[.int .i64 0, .int .i64 16, .int .i64 32, .int .i64 48]) (.int .i64 1)).run Tryd.prog W = .ok (.int .i64 16) W := fun _ => by kernel_rfl
  have i2 : ∀ W : World, (Instr.index 74 (.agg #[.int .i64 0, .int .i64 16, .int .i64 32, .int .i64 48]) (.int .i64 2)).run Tryd.prog W = .ok (.int .i64 32) W := fun _ => by kernel_rfl
  have i3 : ∀ W : World, (Instr.index 74 (.agg #[.int .i64 0, .int .i64 16, .int .i64 32, .int .i64 48]) (.int .i64 3)).run Tryd.prog W = .ok (.int .i64 48) W := fun _ => by kernel_rfl
  go_enter Tryd.func23, Tryd.ntmps23
  go_wp2_with fail
  refine wp_loop_rounds 5 ?_
  rw [rounds_succ]
  go_wp2_with fail
  rw [rounds_succ]
  go_wp2_with fail
  rw [rounds_succ]
  go_wp2_with fail
  (with_reducible refine (node_32 (n - 32) w (by have := HH.out; omega)).mono ?_)
  rintro e w1 ⟨rfl, rfl⟩
  go_wp2_with fail
  go_ret3
  exact ⟨rfl, rfl⟩
set_option maxHeartbeats 800000 in
theorem kind_40 (n : Int) (w : World) (h : 40 ≤ n ∧ n ≤ 47) : Calls Tryd.prog 23 #[.int .i64 n] w fun e w' => e = .returned (.tuple #[.int .i64 0, .int .i64 0, .bool false]) ∧ w' = w := by
  have a0 : decide (n < 0) = false := by simp; omega
  have a16 : decide (n < 16) = false := by simp; omega
  have a32 : decide (n < 32) = false := by simp; omega
  have a48 : decide (n < 48) = true := by simp; omega
  have b8 : decide (8 ≤ n) = true := by simp; omega
  have b24 : decide (24 ≤ n) = true := by simp; omega
  have b40 : decide (40 ≤ n) = true := by simp; omega
  have b56 : decide (56 ≤ n) = false := by simp; omega
  have HH := Lib.hid h
  have hb1 : -100 ≤ n ∨ n < -100 := by omega
  have i0 : ∀ W : World, (Instr.index 74 (.agg #[.int .i64 0, .int .i64 16, .int .i64 32, .int .i64 48]) (.int .i64 0)).run Tryd.prog W = .ok (.int .i64 0) W := fun _ => by kernel_rfl
  have i1 : ∀ W : World, (Instr.index 74 (.agg #[.int .i64 0, .int .i64 16, .int .i64 32, .int .i64 48]) (.int .i64 1)).run Tryd.prog W = .ok (.int .i64 16) W := fun _ => by kernel_rfl
  have i2 : ∀ W : World, (Instr.index 74 (.agg #[.int .i64 0, .int .i64 16, .int .i64 32, .int .i64 48]) (.int .i64 2)).run Tryd.prog W = .ok (.int .i64 32) W := fun _ => by kernel_rfl
  have i3 : ∀ W : World, (Instr.index 74 (.agg #[.int .i64 0, .int .i64 16, .int .i64 32, .int .i64 48]) (.int .i64 3)).run Tryd.prog W = .ok (.int .i64 48) W := fun _ => by kernel_rfl
  go_enter Tryd.func23, Tryd.ntmps23
  go_wp2_with fail
  refine wp_loop_rounds 5 ?_
  rw [rounds_succ]
  go_wp2_with fail
  rw [rounds_succ]
  go_wp2_with fail
  rw [rounds_succ]
  go_wp2_with fail
  rw [rounds_succ]
  go_wp2_with fail
  rw [rounds_succ]
  go_wp2_with fail
  go_ret3
  exact ⟨rfl, rfl⟩
set_option maxHeartbeats 800000 in
theorem kind_48 (n : Int) (w : World) (h : 48 ≤ n ∧ n ≤ 55) : Calls Tryd.prog 23 #[.int .i64 n] w fun e w' => e = .returned (.tuple #[.int .i64 48, .int .i64 (n - 48), .bool true]) ∧ w' = w := by
  have a0 : decide (n < 0) = false := by simp; omega
  have a16 : decide (n < 16) = false := by simp; omega
  have a32 : decide (n < 32) = false := by simp; omega
  have a48 : decide (n < 48) = false := by simp; omega
  have b8 : decide (8 ≤ n) = true := by simp; omega
  have b24 : decide (24 ≤ n) = true := by simp; omega
  have b40 : decide (40 ≤ n) = true := by simp; omega
  have b56 : decide (56 ≤ n) = false := by simp; omega
  have HH := Lib.hid h
  have hb1 : -100 ≤ n ∨ n < -100 := by omega
  have i0 : ∀ W : World, (Instr.index 74 (.agg #[.int .i64 0, .int .i64 16, .int .i64 32, .int .i64 48]) (.int .i64 0)).run Tryd.prog W = .ok (.int .i64 0) W := fun _ => by kernel_rfl
  have i1 : ∀ W : World, (Instr.index 74 (.agg #[.int .i64 0, .int .i64 16, .int .i64 32, .int .i64 48]) (.int .i64 1)).run Tryd.prog W = .ok (.int .i64 16) W := fun _ => by kernel_rfl
  have i2 : ∀ W : World, (Instr.index 74 (.agg #[.int .i64 0, .int .i64 16, .int .i64 32, .int .i64 48]) (.int .i64 2)).run Tryd.prog W = .ok (.int .i64 32) W := fun _ => by kernel_rfl
  have i3 : ∀ W : World, (Instr.index 74 (.agg #[.int .i64 0, .int .i64 16, .int .i64 32, .int .i64 48]) (.int .i64 3)).run Tryd.prog W = .ok (.int .i64 48) W := fun _ => by kernel_rfl
  go_enter Tryd.func23, Tryd.ntmps23
  go_wp2_with fail
  refine wp_loop_rounds 5 ?_
  rw [rounds_succ]
  go_wp2_with fail
  rw [rounds_succ]
  go_wp2_with fail
  rw [rounds_succ]
  go_wp2_with fail
  rw [rounds_succ]
  go_wp2_with fail
  (with_reducible refine (node_48 (n - 48) w (by have := HH.out; omega)).mono ?_)
  rintro e w1 ⟨rfl, rfl⟩
  go_wp2_with fail
  go_ret3
  exact ⟨rfl, rfl⟩
set_option maxHeartbeats 800000 in
theorem kind_56 (n : Int) (w : World) (h : 56 ≤ n) : Calls Tryd.prog 23 #[.int .i64 n] w fun e w' => e = .returned (.tuple #[.int .i64 0, .int .i64 0, .bool false]) ∧ w' = w := by
  have a0 : decide (n < 0) = false := by simp; omega
  have a16 : decide (n < 16) = false := by simp; omega
  have a32 : decide (n < 32) = false := by simp; omega
  have a48 : decide (n < 48) = false := by simp; omega
  have b8 : decide (8 ≤ n) = true := by simp; omega
  have b24 : decide (24 ≤ n) = true := by simp; omega
  have b40 : decide (40 ≤ n) = true := by simp; omega
  have b56 : decide (56 ≤ n) = true := by simp; omega
  have HH := Lib.hid h
  have hb1 : -100 ≤ n ∨ n < -100 := by omega
  have i0 : ∀ W : World, (Instr.index 74 (.agg #[.int .i64 0, .int .i64 16, .int .i64 32, .int .i64 48]) (.int .i64 0)).run Tryd.prog W = .ok (.int .i64 0) W := fun _ => by kernel_rfl
  have i1 : ∀ W : World, (Instr.index 74 (.agg #[.int .i64 0, .int .i64 16, .int .i64 32, .int .i64 48]) (.int .i64 1)).run Tryd.prog W = .ok (.int .i64 16) W := fun _ => by kernel_rfl
  have i2 : ∀ W : World, (Instr.index 74 (.agg #[.int .i64 0, .int .i64 16, .int .i64 32, .int .i64 48]) (.int .i64 2)).run Tryd.prog W = .ok (.int .i64 32) W := fun _ => by kernel_rfl
  have i3 : ∀ W : World, (Instr.index 74 (.agg #[.int .i64 0, .int .i64 16, .int .i64 32, .int .i64 48]) (.int .i64 3)).run Tryd.prog W = .ok (.int .i64 48) W := fun _ => by kernel_rfl
  go_enter Tryd.func23, Tryd.ntmps23
  go_wp2_with fail
  refine wp_loop_rounds 5 ?_
  rw [rounds_succ]
  go_wp2_with fail
  rw [rounds_succ]
  go_wp2_with fail
  rw [rounds_succ]
  go_wp2_with fail
  rw [rounds_succ]
  go_wp2_with fail
  rw [rounds_succ]
  go_wp2_with fail
  go_ret3
  exact ⟨rfl, rfl⟩
theorem kind_yes (n : Int) (w : World) (h : IsN n) : Calls Tryd.prog 23 #[.int .i64 n] w fun e w' => e = .returned (.tuple #[.int .i64 (kindOf n), .int .i64 (n - kindOf n), .bool true]) ∧ w' = w := by
  rcases h with h | h | h | h
  · have e : kindOf n = 0 := by unfold kindOf; rw [if_pos (by omega)]
    rw [e, Int.sub_zero]; exact kind_0 n w (by omega)
  · have e : kindOf n = 16 := by unfold kindOf; rw [if_neg (by omega), if_pos (by omega)]
    rw [e]; exact kind_16 n w h
  · have e : kindOf n = 32 := by unfold kindOf; rw [if_neg (by omega), if_neg (by omega), if_pos (by omega)]
    rw [e]; exact kind_32 n w h
  · have e : kindOf n = 48 := by unfold kindOf; rw [if_neg (by omega), if_neg (by omega), if_neg (by omega)]
    rw [e]; exact kind_48 n w h
theorem kind_no (n : Int) (w : World) (h : ¬ IsN n) : Calls Tryd.prog 23 #[.int .i64 n] w fun e w' => e = .returned (.tuple #[.int .i64 0, .int .i64 0, .bool false]) ∧ w' = w := by
  unfold IsN at h
  by_cases h0 : n < 0
  · exact kind_neg n w h0
  by_cases h1 : n ≤ 7
  · exact kind_1 n w (by omega)
  by_cases h2 : n ≤ 15
  · exact kind_8 n w (by omega)
  by_cases h3 : n ≤ 31
  · exact kind_24 n w (by omega)
  by_cases h4 : n ≤ 47
  · exact kind_40 n w (by omega)
  · exact kind_56 n w (by omega)
end Go.Proofs.YtfhdkcdhfdapbaaDoor
