/- The walk of long. -/
import Derived.Test.YtkgkbmiacomhdaaQuOps
import Derived.Test.YtkgkbmiacomhdaaCho
namespace Go.Proofs.Ytkgkbmiacomhdaa
set_option linter.unusedVariables false
set_option linter.unusedSimpArgs false
open Go.RowKit Go.Conc

set_option maxRecDepth 100000 in
set_option maxHeartbeats 1600000 in
theorem long_any (ops : List QOp) (A : Option Addr) (c : Nat) (w : World) (hA : OpsAt w A ops) (hL : OpsLe ops) (hl : ops.length ≤ 1048576) :
    Calls Try.prog 11 #[.slice A ops.length c] w fun e w' => (∃ b, e = .returned (.bool b)) ∧ Below w.heap.size w w' := by
  have HL := Lib.hid hL
  have HA := Lib.hid hA
  clear hL hA
  go_enter Try.func11, Try.ntmps11
  go_wp2_with fail
  go_loopw [3, 8] (fun n i wr => ∃ k m : Nat, k ≤ ops.length ∧ m ≤ 16384 ∧ i = .int .i64 (k : Int) ∧ n = .int .i64 (m : Int) ∧ Below w.heap.size w wr) (fun _ i _ => ops.length - (intOf i).toNat)
  case atStart => exact ⟨0, 0, Nat.zero_le _, by omega, rfl, rfl, Below.refl _ _⟩
  case round =>
    obtain ⟨k, m, hk, hm, rfl, rfl, hb⟩ := hrel
    by_cases hlt : k < ops.length
    · obtain ⟨ad, rfl, B, cb, hcc, hcb, hB⟩ := (HA.out.below hb) k hlt
      obtain ⟨hr1, hr2, -⟩ := HL.out ops[k] (List.getElem_mem hlt)
      generalize ops[k] = o at *
      obtain ⟨kd, rows, nn⟩ := o
      simp only at hcc hcb hB hr1 hr2
      have HB := Lib.hid hB
      clear hB
      go_wp2_with (with_reducible refine wl_load rfl 37 (.tmp 10) rfl _ rfl _ _ hcc Try.underlying37 rfl (by kernel_rfl) ?_)
      have hB2 : ∀ q, RP ((wr.alloc (.cells #[.int .i64 kd, .slice B rows.length cb, .int .i64 nn] 37)).drewN q) B rows := fun q => (HB.out.below ((Below.refl _ wr).alloc (Nat.le_refl _) _)).below ⟨rfl, rfl, rfl, Nat.le_refl _, fun _ _ => rfl⟩
      have hb2 := below_al hb (.cells #[.int .i64 kd, .slice B rows.length cb, .int .i64 nn] 37)
      have hO : Blk (wr.alloc (.cells #[.int .i64 kd, .slice B rows.length cb, .int .i64 nn] 37)) wr.heap.size 37 [.int .i64 kd, .slice B rows.length cb, .int .i64 nn] := Blk.new wr _ _
      have o1 := hO.cell 1
      simp only [List.getElem?_cons_zero, List.getElem?_cons_succ] at o1
      generalize wr.alloc (.cells #[.int .i64 kd, .slice B rows.length cb, .int .i64 nn] 37) = wa at *
      generalize hgo : wr.heap.size = go_ at *
      generalize htt : total rows = tt at *
      have w1 : IntKind.i64.wrap (1 + (rows.length : Int)) = 1 + (rows.length : Int) := IntWalk.i64_in _ (by omega)
      have w2 : Int.tdiv (tt : Int) 64 = ((tt / 64 : Nat) : Int) := by rw [Int.tdiv_eq_ediv_of_nonneg (by omega)]; omega
      have hq : tt / 64 ≤ 16384 := by omega
      have HQT := Lib.hid htt
      clear htt
      generalize tt / 64 = qq at *
      have w3 : IntKind.i64.wrap (qq : Int) = (qq : Int) := IntWalk.i64_in _ (by omega)
      have w4 : IntKind.i64.wrap (1 + (rows.length : Int) + (qq : Int)) = 1 + (rows.length : Int) + (qq : Int) := IntWalk.i64_in _ (by omega)
      have w5 : IntKind.i64.wrap ((m : Int) + (1 + (rows.length : Int) + (qq : Int))) = (m : Int) + (1 + (rows.length : Int) + (qq : Int)) := IntWalk.i64_in _ (by omega)
      have hsum := fun q => sum_rows rows B cb (wa.drewN q) (hB2 q) (by rw [HQT.out]; exact hr2) (by omega)
      rw [HQT.out] at hsum
      have HSUM := Lib.hid hsum
      clear hsum hB2 hcc
      go_quiet ((go_at_call 24; exact Calls.quiet_of_same (HSUM.out _)))
      by_cases hgt : 16384 < m + (1 + rows.length + qq)
      · go_wp2_with fail
        go_ret
        exact ⟨⟨_, rfl⟩, below_drewN hb2 nq⟩
      · go_wp2_with fail
        go_roundw
        case rel => exact ⟨k + 1, m + (1 + rows.length + qq), by omega, by omega, by go_num, by go_num, below_drewN hb2 nq⟩
        case measure => simp [intOf]; omega
    · go_wp2_with fail
      go_ret
      exact ⟨⟨_, rfl⟩, hb⟩
end Go.Proofs.Ytkgkbmiacomhdaa
