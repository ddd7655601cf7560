/- The walk of towpathnum.Sum. -/
import Derived.Test.YtikichifdkgobaaGrow
import Derived.Test.YtikichifdkgobaaSumPure
import Derived.Test.YtikichifdkgobaaOpenRows
import Derived.Deep.QuietTactic
import Derived.BigQuiet
import Derived.Deep.CutBlock
namespace Go.Proofs.Ytikichifdkgobaa
set_option linter.unusedVariables false
set_option linter.unusedSimpArgs false
open Go.RowKit

theorem total_nil : total [] = 0 := rfl
theorem total_app (ps qs : List (List UInt8)) : total (ps ++ qs) = total ps + total qs := by simp [total]
theorem total_one (x : List UInt8) : total [x] = x.length := by simp [total]
theorem total_take_le (ps : List (List UInt8)) (k : Nat) : total (ps.take k) ≤ total ps := by
  have h := total_app (ps.take k) (ps.drop k)
  rw [List.take_append_drop] at h
  omega
theorem total_mem {ps : List (List UInt8)} {x : List UInt8} (h : x ∈ ps) : x.length ≤ total ps := by
  obtain ⟨s, t, rfl⟩ := List.append_of_mem h
  have h1 := total_app s (x :: t)
  have h2 := total_app [x] t
  rw [total_one] at h2
  simp only [List.singleton_append] at h2
  omega
set_option maxHeartbeats 800000 in
theorem sum_rows (ps : List (List UInt8)) (A : Option Addr) (c : Nat) (w : World) (hA : RP w A ps) (ht : total ps ≤ 1048576) (hl : ps.length ≤ 4000000) :
    Calls Try.prog 19 #[.slice A ps.length c, .int .i64 1048576] w fun e w' => e = .returned (.int .i64 (total ps : Int)) ∧ w' = w := by
  go_enter Try.func19, Try.ntmps19
  go_wp2
  go_loop [5, 10] (fun n i => ∃ k : Nat, k ≤ ps.length ∧ i = .int .i64 (k : Int) ∧ n = .int .i64 (total (ps.take k) : Int)) (fun _ i => ps.length - (intOf i).toNat)
  case atStart => exact ⟨0, Nat.zero_le _, rfl, rfl⟩
  case round =>
    obtain ⟨k, hk, rfl, rfl⟩ := hrel
    by_cases hlt : k < ps.length
    · obtain ⟨ad, B, cb, rfl, hcell, hcb, hB⟩ := hA.at_ k hlt
      have h1 := total_take_le ps (k + 1)
      have hs : total (ps.take (k + 1)) = total (ps.take k) + ps[k].length := by rw [take_snoc ps k hlt, total_app, total_one]
      have HS := Lib.hid hs
      rw [hs] at h1
      clear hs
      generalize total (ps.take k) = t at *
      generalize ps[k] = x at *
      go_wp2
      go_round
      case rel => exact ⟨k + 1, by omega, by go_num, by rw [HS.out]; go_num⟩
      case measure => simp [intOf]; omega
    · obtain rfl : k = ps.length := by omega
      rw [List.take_length] at *
      go_wp2
      go_ret
      exact ⟨rfl, rfl⟩
end Go.Proofs.Ytikichifdkgobaa
