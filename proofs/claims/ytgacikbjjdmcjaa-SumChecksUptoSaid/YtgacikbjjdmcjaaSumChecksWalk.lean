/- The walk of the law SumChecks. -/
import Derived.Test.YtgacikbjjdmcjaaAlive02
namespace Go.Proofs.Ytgacikbjjdmcjaa
set_option linter.unusedVariables false
set_option linter.unusedSimpArgs false
open Go.RowKit

set_option maxHeartbeats 1600000 in
theorem SumChecks_walk (x0 : List UInt8) (A0 : Option Addr) (c0 : Nat) (x1 : List UInt8) (A1 : Option Addr) (c1 : Nat) (w : World)
    (l0 : x0.length ≤ c0) (r0 : RB w A0 x0) (n0 : x0.length ≤ 1048576) (l1 : x1.length ≤ c1) (r1 : RB w A1 x1) (n1 : x1.length ≤ 1048576) :
    Calls Try.prog 4 #[.slice A0 x0.length c0, .slice A1 x1.length c1] w fun e w' => e = .returned (.bool true) ∧ Below w.heap.size w w' := by
  obtain ⟨i0, hi, hz0, hz1, hz2⟩ := info_parts info_u8
  by_cases h0 : x0.length ≤ 65536
  · by_cases h1 : x1.length ≤ 65536
    · go_enter Try.func4, Try.ntmps4
      go_wp2_with fail
      refine (alive_any w).mono ?_
      rintro e w1 ⟨rfl, hb1⟩
      have t0 := hb1.size
      go_wp2_with (at_builtin; refine wl_app _ rfl (.tmp 17) (.tmp 18) 30 rfl w.heap.size 5 i0 (.int .u8 0) 1 1 Try.underlying30 hi hz0 hz1 hz2 rfl (by omega) _ _ _ rfl (own_empty w1 w.heap.size 5 w1.heap.size rfl hb1.size) A0 x0.length c0 (x0.map bv) rfl (by simp) (r0.below (hb1.alloc hb1.size _)) (one_bv x0) (by unfold maxLen; omega) (by omega) (by simp; omega) ?_)
      intro v2 w2 hown2 hg2 hat2
      have hb2 : Below w.heap.size w w2 := (hb1.alloc hb1.size _).grown hg2 (by simp; omega) (fun g hg => by simp [Value.ownBlock] at hg; omega)
      try simp only [Nat.zero_add, List.nil_append] at hown2
      clear hg2 hat2
      go_wp2_with (at_builtin; refine wl_app _ rfl (.tmp 19) (.tmp 20) 30 rfl w.heap.size 5 i0 (.int .u8 0) 1 1 Try.underlying30 hi hz0 hz1 hz2 rfl (by omega) _ _ _ rfl hown2 A1 x1.length c1 (x1.map bv) rfl (by simp) (r1.below hb2) (one_bv x1) (by unfold maxLen; omega) (by omega) hb2.size ?_)
      intro v3 w3 hown3 hg3 _
      have hb3 : Below w.heap.size w w3 := hb2.grown hg3 hb2.size (fun g hg => (hown2.lt g hg).1)
      clear hown2 hg3
      rw [← List.map_append, show x0.length + x1.length = (x0 ++ x1).length from by simp] at hown3
      obtain ⟨B, cb, rfl, hcb, hB, -⟩ := own_form hown3
      clear hown3
      have hfl : (x0 ++ x1).length ≤ 131072 := by rw [List.length_append]; omega
      have hq : Hid ([x0, x1].flatten = x0 ++ x1) := by show [x0, x1].flatten = _; simp
      have hq2 : Hid ([x0 ++ x1].flatten = x0 ++ x1) := by show [x0 ++ x1].flatten = _; simp
      have hq3 : Hid ([[], x0 ++ x1, []].flatten = x0 ++ x1) := by show [[], x0 ++ x1, []].flatten = _; simp
      have R0 := r0.below hb3
      have R1 := r1.below hb3
      generalize x0 ++ x1 = x at *
      have RX : RB w3 B x := hB
      clear hB
      go_wp2_with fail
      refine (rcheck_any x B cb w3 RX (by omega)).mono ?_
      rintro e w4 ⟨rfl, rfl⟩
      generalize hC : crc x = C
      have HC := Lib.hid hC
      clear hC
      go_wp2_with fail
      refine (check_any [x0, x1] _ _ _ ?s1 (by simp) (by rw [hq.out]; omega)).mono ?_
      case s1 => exact rp2 _ _ _ _ _ _ x0 x1 l0 l1 R0 R1 rfl
      rintro e w5 ⟨rfl, rfl⟩
      rw [hq.out, HC.out]
      go_wp2_with fail
      refine (check_any [x] _ _ _ ?s2 (by simp) (by rw [hq2.out]; omega)).mono ?_
      case s2 => exact rp1 _ _ _ _ x hcb (RX.below ((Below.refl _ _).alloc (Nat.le_refl _) _)) (by simp)
      rintro e w6 ⟨rfl, rfl⟩
      rw [hq2.out, HC.out]
      go_wp2_with fail
      refine (check_any [[], x, []] _ _ _ ?s3 (by simp) (by rw [hq3.out]; omega)).mono ?_
      case s3 => exact rp3 _ _ _ _ _ 0 _ 0 [] x [] (by simp) hcb (by simp) (RC.nil _ _) (RX.below (((Below.refl _ _).alloc (Nat.le_refl _) _).alloc (by simp) _)) (RC.nil _ _) (by simp)
      rintro e w7 ⟨rfl, rfl⟩
      rw [hq3.out, HC.out]
      go_wp2_with fail
      go_ret
      exact ⟨rfl, ((hb3.alloc hb3.size _).alloc (by have := hb3.size; simp; omega) _).alloc (by have := hb3.size; simp; omega) _⟩
    · go_enter Try.func4, Try.ntmps4
      go_wp2_with fail
      refine (alive_any w).mono ?_
      rintro e w1 ⟨rfl, hb1⟩
      go_wp2_with fail
      go_ret
      exact ⟨rfl, hb1⟩
  · go_enter Try.func4, Try.ntmps4
    go_wp2_with fail
    refine (alive_any w).mono ?_
    rintro e w1 ⟨rfl, hb1⟩
    go_wp2_with fail
    go_ret
    exact ⟨rfl, hb1⟩
end Go.Proofs.Ytgacikbjjdmcjaa
