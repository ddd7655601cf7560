/- The walks of towpathnum.Sum and towpathnum.Rows. -/
import Derived.Test.YtkgkbmiacomhdaaGrow
import Derived.Test.YtkgkbmiacomhdaaSumPure
import Derived.Test.YtkgkbmiacomhdaaOpenRows
import Derived.Deep.QuietTactic
import Derived.BigQuiet
import Derived.Deep.CutBlock
namespace Go.Proofs.Ytkgkbmiacomhdaa
set_option linter.unusedVariables false
set_option linter.unusedSimpArgs false
open Go.RowKit

theorem total_nil : total [] = 0 := rfl
theorem total_app (ps qs : List (List UInt8)) : total (ps ++ qs) = total ps + total qs := by simp [total]
theorem total_one (x : List UInt8) : total [x] = x.length := by simp [total]
theorem total_take_le (ps : List (List UInt8)) (k : Nat) : total (ps.take k) ≤ total ps := by
  have h := total_app (ps.take k) (ps.drop k)
  rw [List.take_append_drop] at h
  omega
theorem total_mem {ps : List (List UInt8)} {x : List UInt8} (h : x ∈ ps) : x.length ≤ total ps := by
  obtain ⟨s, t, rfl⟩ := List.append_of_mem h
  have h1 := total_app s (x :: t)
  have h2 := total_app [x] t
  rw [total_one] at h2
  simp only [List.singleton_append] at h2
  omega
set_option maxHeartbeats 800000 in
theorem sum_rows (ps : List (List UInt8)) (A : Option Addr) (c : Nat) (w : World) (hA : RP w A ps) (ht : total ps ≤ 1048576) (hl : ps.length ≤ 4000000) :
    Calls Try.prog 24 #[.slice A ps.length c, .int .i64 1048576] w fun e w' => e = .returned (.int .i64 (total ps : Int)) ∧ w' = w := by
  go_enter Try.func24, Try.ntmps24
  go_wp2
  go_loop [5, 10] (fun n i => ∃ k : Nat, k ≤ ps.length ∧ i = .int .i64 (k : Int) ∧ n = .int .i64 (total (ps.take k) : Int)) (fun _ i => ps.length - (intOf i).toNat)
  case atStart => exact ⟨0, Nat.zero_le _, rfl, rfl⟩
  case round =>
    obtain ⟨k, hk, rfl, rfl⟩ := hrel
    by_cases hlt : k < ps.length
    · obtain ⟨ad, B, cb, rfl, hcell, hcb, hB⟩ := hA.at_ k hlt
      have h1 := total_take_le ps (k + 1)
      have hs : total (ps.take (k + 1)) = total (ps.take k) + ps[k].length := by rw [take_snoc ps k hlt, total_app, total_one]
      have HS := Lib.hid hs
      rw [hs] at h1
      clear hs
      generalize total (ps.take k) = t at *
      generalize ps[k] = x at *
      go_wp2
      go_round
      case rel => exact ⟨k + 1, by omega, by go_num, by rw [HS.out]; go_num⟩
      case measure => simp [intOf]; omega
    · obtain rfl : k = ps.length := by omega
      rw [List.take_length] at *
      go_wp2
      go_ret
      exact ⟨rfl, rfl⟩
set_option maxHeartbeats 800000 in
theorem rows_any (ps qs : List (List UInt8)) (A B : Option Addr) (c d : Nat) (w : World) (hA : RP w A ps) (hB : RP w B qs) (hl : ps.length ≤ 4000000) :
    Calls Try.prog 19 #[.slice A ps.length c, .slice B qs.length d] w fun e w' => e = .returned (.bool (decide (ps = qs))) ∧ ∃ n, w' = w.drewN n := by
  by_cases hlen : ps.length = qs.length
  · have hne : ((ps.length : Int) != (qs.length : Int)) = false := by simp [hlen]
    go_enter Try.func19, Try.ntmps19
    go_wp2_with fail
    go_loopw [13] (fun i wr => ∃ k n : Nat, k ≤ ps.length ∧ i = .int .i64 (k : Int) ∧ Hid (ps.take k = qs.take k) ∧ wr = w.drewN n) (fun i _ => ps.length - (intOf i).toNat)
    case atStart => exact ⟨0, 0, Nat.zero_le _, rfl, rfl, rfl⟩
    case round =>
      obtain ⟨k, n, hk, rfl, HE, rfl⟩ := hrel
      by_cases hlt : k < ps.length
      · have hk2 : k < qs.length := by omega
        obtain ⟨ad, X, cx, rfl, hcA, hcx, hX⟩ := hA.at_ k hlt
        obtain ⟨bd, Y, cy, rfl, hcB, hcy, hY⟩ := hB.at_ k hk2
        have s1 := fun m => run_str (P := Try.prog) (w.drewN m) _ _ _ Try.underlying42 Try.underlying5 Try.underlying9 _ _ cx _ (hX.drewN m) rfl
        have s2 := fun m => run_str (P := Try.prog) (w.drewN m) _ _ _ Try.underlying42 Try.underlying5 Try.underlying9 _ _ cy _ (hY.drewN m) rfl
        have hki : (k : Int) < (ps.length : Int) := by omega
        have hki2 : (k : Int) < (qs.length : Int) := by omega
        have hk0 : (0 : Int) ≤ (k : Int) := by omega
        have H1 := Lib.hid (take_snoc ps k hlt)
        have H2 := Lib.hid (take_snoc qs k hk2)
        have HLE := Lib.hid hlen
        clear hlen hne
        have HXY : Hid (ps[k] = qs[k] ↔ ps[k] = qs[k]) := Iff.rfl
        have HN : Hid (ps[k] ≠ qs[k] → ps ≠ qs) := fun h e => h (by subst e; rfl)
        generalize ps[k] = x at *
        generalize qs[k] = y at *
        by_cases hxy : x = y
        · have hcm : ((bs x).toList == (bs y).toList) = true := by rw [beq_bs, hxy]; simp
          have hcn : ((bs x).toList != (bs y).toList) = false := by rw [bne, hcm]; rfl
          have HEQ := Lib.hid hxy
          clear hxy
          generalize bs x = bx at *
          generalize bs y = by_ at *
          go_wp2_with fail
          go_quiet (fail)
          go_wp2_with fail
          go_roundw
          case rel => exact ⟨k + 1, _, by omega, by go_num, by show _ = _; rw [H1.out, H2.out, HE.out, HEQ.out], rfl⟩
          case measure => simp [intOf]; omega
        · have hcm : ((bs x).toList == (bs y).toList) = false := by rw [beq_bs]; simp [hxy]
          have hcn : ((bs x).toList != (bs y).toList) = true := by rw [bne, hcm]; rfl
          have HNE : Hid (decide (ps = qs) = false) := decide_eq_false (HN.out hxy)
          clear hxy
          generalize bs x = bx at *
          generalize bs y = by_ at *
          go_wp2_with fail
          go_quiet (fail)
          go_wp2_with fail
          go_ret
          exact ⟨congrArg (fun x => Ending.returned (Value.bool x)) HNE.out.symm, _, World.drewN_drewN _ _ _⟩
      · have HEQ : Hid (decide (ps = qs) = true) := by
          have h := HE.out
          rw [List.take_of_length_le (by omega), List.take_of_length_le (by omega)] at h
          exact decide_eq_true h
        go_wp2_with fail
        go_ret
        exact ⟨congrArg (fun x => Ending.returned (Value.bool x)) HEQ.out.symm, _, rfl⟩
  · have hne : ((ps.length : Int) != (qs.length : Int)) = true := by simp; omega
    have HNE : Hid (decide (ps = qs) = false) := decide_eq_false (fun e => hlen (by rw [e]))
    go_enter Try.func19, Try.ntmps19
    go_wp2_with fail
    go_ret
    exact ⟨congrArg (fun x => Ending.returned (Value.bool x)) HNE.out.symm, 0, rfl⟩
end Go.Proofs.Ytkgkbmiacomhdaa
