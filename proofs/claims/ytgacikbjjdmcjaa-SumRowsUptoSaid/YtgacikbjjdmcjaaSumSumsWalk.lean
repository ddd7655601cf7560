/- The walk of the law SumSums. -/
import Derived.Test.YtgacikbjjdmcjaaAlive02
namespace Go.Proofs.Ytgacikbjjdmcjaa
set_option linter.unusedVariables false
set_option linter.unusedSimpArgs false
open Go.RowKit

set_option maxHeartbeats 400000 in
theorem good_any (ps : List (List UInt8)) (A : Option Addr) (c : Nat) (w : World) (hA : RP w A ps) (hn : ps.length ≤ 100000) (hl : ps.flatten.length ≤ 4000000) :
    Calls Try.prog 17 #[.slice A ps.length c] w fun e w' => e = .returned (.bool ((cks ps.flatten : Int) == 0)) ∧ w' = w := by
  go_enter Try.func17, Try.ntmps17
  go_wp2_with fail
  refine (sum_any ps A c w hA hn hl).mono ?_
  rintro e w' ⟨rfl, rfl⟩
  go_wp2
  go_ret
  exact ⟨rfl, rfl⟩

set_option maxHeartbeats 1600000 in
theorem SumSums_walk (x0 : List UInt8) (A0 : Option Addr) (c0 : Nat) (x1 : List UInt8) (A1 : Option Addr) (c1 : Nat) (x2 : List UInt8) (A2 : Option Addr) (c2 : Nat) (w : World)
    (l0 : x0.length ≤ c0) (r0 : RB w A0 x0) (n0 : x0.length ≤ 1048576) (l1 : x1.length ≤ c1) (r1 : RB w A1 x1) (n1 : x1.length ≤ 1048576) (l2 : x2.length ≤ c2) (r2 : RB w A2 x2) (n2 : x2.length ≤ 1048576) :
    Calls Try.prog 7 #[.slice A0 x0.length c0, .slice A1 x1.length c1, .slice A2 x2.length c2] w fun e w' => e = .returned (.bool true) ∧ Below w.heap.size w w' := by
  have hlen : [x0, x1, x2].flatten.length ≤ 4000000 := by simp; omega
  go_enter Try.func7, Try.ntmps7
  go_wp2_with fail
  refine (alive_any w).mono ?_
  rintro e w1 ⟨rfl, hb1⟩
  go_wp2_with fail
  refine (copy_any x0 A0 c0 w1 (r0.below hb1) l0 (by omega)).mono ?_
  rintro e w2 ⟨g0, rfl, hg0, hG0, hb2'⟩
  have hb2 : Below w.heap.size w w2 := hb1.trans (hb2'.mono hb1.size)
  go_wp2_with fail
  refine (copy_any x1 A1 c1 w2 (r1.below hb2) l1 (by omega)).mono ?_
  rintro e w3 ⟨g1, rfl, hg1, hG1, hb3'⟩
  have hb3 : Below w.heap.size w w3 := hb2.trans (hb3'.mono hb2.size)
  replace hG0 := hG0.kept hb3'
  go_wp2_with fail
  refine (copy_any x2 A2 c2 w3 (r2.below hb3) l2 (by omega)).mono ?_
  rintro e w4 ⟨g2, rfl, hg2, hG2, hb4'⟩
  have hb4 : Below w.heap.size w w4 := hb3.trans (hb4'.mono hb3.size)
  replace hG0 := hG0.kept hb4'
  replace hG1 := hG1.kept hb4'
  clear hb2' hb3' hb4'
  have R0 : RB w4 (some ⟨g0, 0, none⟩) x0 := marked_rb hG0
  have R1 : RB w4 (some ⟨g1, 0, none⟩) x1 := marked_rb hG1
  have R2 : RB w4 (some ⟨g2, 0, none⟩) x2 := marked_rb hG2
  go_wp2_with fail
  refine (sum_any [x0, x1, x2] _ _ _ ?s1 (by simp) hlen).mono ?_
  case s1 => exact rp3 _ _ _ _ _ _ _ _ x0 x1 x2 (by omega) (by omega) (by omega) R0 R1 R2 rfl
  rintro e w5 ⟨rfl, rfl⟩
  generalize hC : cks [x0, x1, x2].flatten = C
  have HC := Lib.hid hC
  clear hC
  obtain ⟨d, hd⟩ : ∃ d : Bool, ((C : Int) == 0) = d := ⟨_, rfl⟩
  go_wp2_with fail
  refine (rsum_any [x0, x1, x2] _ _ _ ?s2 (by simp) hlen).mono ?_
  case s2 =>
    have hb5 : Below w.heap.size w (w4.alloc (.cells #[.slice (some ⟨g0, 0, none⟩) x0.length (x0.length + 2), .slice (some ⟨g1, 0, none⟩) x1.length (x1.length + 2), .slice (some ⟨g2, 0, none⟩) x2.length (x2.length + 2)] 30)) := hb4.alloc hb4.size _
    exact rp3 _ _ _ _ _ _ _ _ x0 x1 x2 l0 l1 l2 (r0.below hb5) (r1.below hb5) (r2.below hb5) (by simp)
  rintro e w6 ⟨rfl, hb6⟩
  rw [HC.out]
  have hb46 : Below w4.heap.size w4 w6 := (((Below.refl _ w4).alloc (Nat.le_refl _) _).alloc (by simp) _).trans (hb6.mono (by simp; omega))
  clear hb6
  have hb06 : Below w.heap.size w w6 := hb4.trans (hb46.mono hb4.size)
  go_wp2_with fail
  refine (good_any [x0, x1, x2] _ _ _ ?s3 (by simp) hlen).mono ?_
  case s3 => exact rp3 _ _ _ _ _ _ _ _ x0 x1 x2 (by omega) (by omega) (by omega) (R0.below hb46) (R1.below hb46) (R2.below hb46) rfl
  rintro e w7 ⟨rfl, rfl⟩
  rw [HC.out]
  go_wp2_with fail
  refine (sum_any [] none 0 _ (RP.nil _ _) (by simp) (by simp)).mono ?_
  rintro e w8 ⟨rfl, rfl⟩
  rw [show cks ([] : List (List UInt8)).flatten = 65535 from rfl]
  have hb48 : Below w4.heap.size w4 (w6.alloc (.cells #[.slice (some ⟨g0, 0, none⟩) x0.length (x0.length + 2), .slice (some ⟨g1, 0, none⟩) x1.length (x1.length + 2), .slice (some ⟨g2, 0, none⟩) x2.length (x2.length + 2)] 30)) := hb46.alloc hb46.size _
  have hb08 := hb4.trans (hb48.mono hb4.size)
  replace hG0 := hG0.kept hb48
  replace hG1 := hG1.kept hb48
  replace hG2 := hG2.kept hb48
  replace r0 := r0.below hb08
  replace r1 := r1.below hb08
  replace r2 := r2.below hb08
  clear hb46 hb48 hb06 R0 R1 R2 HC
  generalize w6.alloc _ = w9 at *
  go_wp2_with fail
  refine (kept_any x0 g0 A0 c0 w9 r0 hG0 (by omega)).mono ?_
  rintro e w10 ⟨rfl, hb10⟩
  go_wp2_with fail
  refine (kept_any x1 g1 A1 c1 w10 (r1.below hb10) (hG1.kept hb10) (by omega)).mono ?_
  rintro e w11 ⟨rfl, hb11⟩
  have hb911 := hb10.trans (hb11.mono hb10.size)
  go_wp2_with fail
  refine (kept_any x2 g2 A2 c2 w11 (r2.below hb911) (hG2.kept hb911) (by omega)).mono ?_
  rintro e w12 ⟨rfl, hb12⟩
  have hb912 := hb911.trans (hb12.mono hb911.size)
  go_wp2_with fail
  go_ret
  exact ⟨rfl, hb08.trans (hb912.mono hb08.size)⟩
end Go.Proofs.Ytgacikbjjdmcjaa
