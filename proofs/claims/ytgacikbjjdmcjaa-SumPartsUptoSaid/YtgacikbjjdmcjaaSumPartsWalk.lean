/- The walk of the law SumParts. -/
import Derived.Test.YtgacikbjjdmcjaaAlive02
namespace Go.Proofs.Ytgacikbjjdmcjaa
set_option linter.unusedVariables false
set_option linter.unusedSimpArgs false
open Go.RowKit

theorem wsum_even (xs ys : List UInt8) (h : xs.length % 2 = 0) : wsum true (xs ++ ys) = wsum true xs + wsum true ys := by
  rw [wsum_append]; unfold after; rw [if_pos h]
theorem cks_comm (xs ys : List UInt8) (h : xs.length % 2 = 0) (h2 : ys.length % 2 = 0) : cks (xs ++ ys) = cks (ys ++ xs) := by
  unfold cks; rw [wsum_even _ _ h, wsum_even _ _ h2, Nat.add_comm]

set_option maxHeartbeats 1600000 in
theorem SumParts_walk (x0 : List UInt8) (A0 : Option Addr) (c0 : Nat) (x1 : List UInt8) (A1 : Option Addr) (c1 : Nat) (w : World)
    (l0 : x0.length ≤ c0) (r0 : RB w A0 x0) (n0 : x0.length ≤ 1048576) (l1 : x1.length ≤ c1) (r1 : RB w A1 x1) (n1 : x1.length ≤ 1048576) :
    Calls Try.prog 5 #[.slice A0 x0.length c0, .slice A1 x1.length c1] w fun e w' => e = .returned (.bool true) ∧ Below w.heap.size w w' := by
  obtain ⟨i0, hi, hz0, hz1, hz2⟩ := info_parts info_u8
  have a1 : (0 : Int) ≤ (x0.length : Int) / 2 * 2 := by omega
  have a2 : (x0.length : Int) / 2 * 2 ≤ (x0.length : Int) := by omega
  have a3 : ((x0.length : Int) / 2 * 2).toNat = x0.length / 2 * 2 := by omega
  have b1 : (0 : Int) ≤ (x1.length : Int) / 2 * 2 := by omega
  have b2 : (x1.length : Int) / 2 * 2 ≤ (x1.length : Int) := by omega
  have b3 : ((x1.length : Int) / 2 * 2).toNat = x1.length / 2 * 2 := by omega
  go_enter Try.func5, Try.ntmps5
  go_wp2_with fail
  refine (alive_any w).mono ?_
  rintro e w1 ⟨rfl, hb1⟩
  go_wp2_with fail
  go_quiet (fail)
  clear a1 a2 a3 b1 b2 b3
  have hk0 : x0.length / 2 * 2 ≤ x0.length := by omega
  have hk1 : x1.length / 2 * 2 ≤ x1.length := by omega
  have he0 : (x0.length / 2 * 2) % 2 = 0 := by omega
  have he1 : (x1.length / 2 * 2) % 2 = 0 := by omega
  generalize x0.length / 2 * 2 = k0 at *
  generalize x1.length / 2 * 2 = k1 at *
  have hb1 : Below w.heap.size w (w1.drewN nq) := ⟨hb1.os, hb1.tape, hb1.output, hb1.size, hb1.block⟩
  have t0 := hb1.size
  obtain ⟨u0, rfl, T0⟩ : ∃ u0 : List UInt8, k0 = u0.length ∧ RB w A0 u0 := ⟨x0.take k0, by rw [List.length_take]; omega, r0.take_ k0⟩
  obtain ⟨u1, rfl, T1⟩ : ∃ u1 : List UInt8, k1 = u1.length ∧ RB w A1 u1 := ⟨x1.take k1, by rw [List.length_take]; omega, r1.take_ k1⟩
  generalize w1.drewN nq = w2 at *
  go_wp2_with (at_builtin; refine wl_app _ rfl (.tmp 22) (.tmp 23) 30 rfl w.heap.size 5 i0 (.int .u8 0) 1 1 Try.underlying30 hi hz0 hz1 hz2 rfl (by omega) _ _ _ rfl (own_empty w2 w.heap.size 5 w2.heap.size rfl t0) A0 u0.length c0 (u0.map bv) rfl (by simp) (RB.below T0 (hb1.alloc hb1.size _)) (one_bv _) (by unfold maxLen; omega) (by omega) (by simp; omega) ?_)
  intro v3 w3 hown3 hg3 hat3
  have hb3 : Below w.heap.size w w3 := (hb1.alloc hb1.size _).grown hg3 (by simp; omega) (fun g hg => by simp [Value.ownBlock] at hg; omega)
  try simp only [Nat.zero_add, List.nil_append] at hown3
  clear hg3 hat3
  go_wp2_with (at_builtin; refine wl_app _ rfl (.tmp 24) (.tmp 25) 30 rfl w.heap.size 5 i0 (.int .u8 0) 1 1 Try.underlying30 hi hz0 hz1 hz2 rfl (by omega) _ _ _ rfl hown3 A1 x1.length c1 (x1.map bv) rfl (by simp) (r1.below hb3) (one_bv x1) (by unfold maxLen; omega) (by omega) hb3.size ?_)
  intro v4 w4 hown4 hg4 _
  have hb4 : Below w.heap.size w w4 := hb3.grown hg4 hb3.size (fun g hg => (hown3.lt g hg).1)
  clear hown3 hg4 hb3 hb1 t0
  rw [← List.map_append, show u0.length + x1.length = (u0 ++ x1).length from by simp] at hown4
  obtain ⟨B, cb, rfl, hcb, hB, -⟩ := own_form hown4
  clear hown4
  have hxl : (u0 ++ x1).length ≤ 3000000 := by rw [List.length_append]; omega
  have q1 : Hid ([u0, x1].flatten = u0 ++ x1) := by show [u0, x1].flatten = _; simp
  have q2 : Hid ([u0 ++ x1].flatten = u0 ++ x1) := by show [u0 ++ x1].flatten = _; simp
  have q3 : Hid ([u0, u1].flatten = u0 ++ u1) := by show [u0, u1].flatten = _; simp
  have q4 : Hid ([u1, u0].flatten = u1 ++ u0) := by show [u1, u0].flatten = _; simp
  have q5 : Hid ([[], u0].flatten = u0) := by show [[], u0].flatten = _; simp
  have q6 : Hid ([u0].flatten = u0) := by show [u0].flatten = _; simp
  have b3 : (u0 ++ u1).length ≤ 4000000 := by rw [List.length_append]; omega
  have b4 : (u1 ++ u0).length ≤ 4000000 := by rw [List.length_append]; omega
  have hcm := Lib.hid (cks_comm u0 u1 he0 he1)
  have B3 := Lib.hid b3
  have B4 := Lib.hid b4
  have B1 := Lib.hid hxl
  clear b3 b4 hxl he0 he1
  have R1 := r1.below hb4
  have U0 := T0.below hb4
  have U1 := T1.below hb4
  clear r0 r1 T0 T1
  generalize u0 ++ x1 = xx at *
  have RX : RB w4 B xx := hB
  clear hB
  go_wp2_with fail
  refine (sum_any [u0, x1] _ _ _ ?s1 (by simp) (by rw [q1.out]; have := B1.out; omega)).mono ?_
  case s1 => exact rp2 _ _ _ _ _ _ u0 x1 (by omega) l1 U0 R1 rfl
  rintro e w5 ⟨rfl, hw⟩
  have hb5 : Below w4.heap.size w4 w5 := by rw [hw]; exact (Below.refl _ _).alloc (Nat.le_refl _) _
  clear hw
  rw [q1.out]
  generalize hC : cks xx = C at *
  have HC := Lib.hid hC
  clear hC
  go_wp2_with fail
  refine (sum_any [xx] _ _ _ ?s2 (by simp) (by simp; have := B1.out; omega)).mono ?_
  case s2 => exact rp1 _ _ _ _ xx hcb (RX.below hb5) rfl
  rintro e w6 ⟨rfl, hw⟩
  have hb6 : Below w4.heap.size w4 w6 := by rw [hw]; exact hb5.alloc hb5.size _
  clear hw
  rw [show [xx].flatten = xx from by simp, HC.out]
  go_wp2_with fail
  refine (sum_any [u0, u1] _ _ _ ?s3 (by simp) (by rw [q3.out]; exact B3.out)).mono ?_
  case s3 => exact rp2 _ _ _ _ _ _ u0 u1 (by omega) (by omega) (U0.below hb6) (U1.below hb6) rfl
  rintro e w7 ⟨rfl, hw⟩
  have hb7 : Below w4.heap.size w4 w7 := by rw [hw]; exact hb6.alloc hb6.size _
  clear hw
  rw [q3.out, hcm.out]
  generalize hD : cks (u1 ++ u0) = D at *
  have HD := Lib.hid hD
  clear hD
  go_wp2_with fail
  refine (sum_any [u1, u0] _ _ _ ?s4 (by simp) (by rw [q4.out]; exact B4.out)).mono ?_
  case s4 => exact rp2 _ _ _ _ _ _ u1 u0 (by omega) (by omega) (U1.below hb7) (U0.below hb7) rfl
  rintro e w8 ⟨rfl, hw⟩
  have hb8 : Below w4.heap.size w4 w8 := by rw [hw]; exact hb7.alloc hb7.size _
  clear hw
  rw [q4.out, HD.out]
  go_wp2_with fail
  refine (sum_any [[], u0] _ _ _ ?s5 (by simp) (by rw [q5.out]; omega)).mono ?_
  case s5 => exact rp2 _ _ _ _ 0 _ [] u0 (by simp) (by omega) (RC.nil _ _) (U0.below hb8) rfl
  rintro e w9 ⟨rfl, hw⟩
  have hb9 : Below w4.heap.size w4 w9 := by rw [hw]; exact hb8.alloc hb8.size _
  clear hw
  rw [q5.out]
  generalize hE : cks u0 = E at *
  have HE := Lib.hid hE
  clear hE
  go_wp2_with fail
  refine (sum_any [u0] _ _ _ ?s6 (by simp) (by rw [q6.out]; omega)).mono ?_
  case s6 => exact rp1 _ _ _ _ u0 (by omega) (U0.below hb9) rfl
  rintro e w10 ⟨rfl, hw⟩
  have hb10 : Below w4.heap.size w4 w10 := by rw [hw]; exact hb9.alloc hb9.size _
  clear hw
  rw [q6.out, HE.out]
  go_wp2_with fail
  go_ret
  exact ⟨rfl, hb4.trans (hb10.mono hb4.size)⟩
end Go.Proofs.Ytgacikbjjdmcjaa
