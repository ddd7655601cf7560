/- The walks of sum.fold and sum.Sum. -/
import Derived.Test.YtbhdjalpkecbeaaProg
import Derived.Test.YtbhdjalpkecbeaaBits
namespace Go.Proofs.Ytbhdjalpkecbeaa
set_option linter.unusedVariables false
set_option linter.unusedSimpArgs false
open Go.RowKit

theorem fold_and (m : Nat) (h : m < 18446744073709551616) : bits .and .u64 (m : Int) 65535 = ((m % 65536 : Nat) : Int) := by
  have h1 := u64_and_nat m 65535 h (by omega)
  rw [nat_mask16] at h1
  exact h1

set_option maxHeartbeats 400000 in
theorem fold_any (n : Nat) (w : World) (h : n < 18446744073709551616) :
    Calls Try.prog 27 #[.int .u64 (n : Int)] w fun e w' => e = .returned (.int .u16 (fold16 n : Int)) ∧ w' = w := by
  go_enter Try.func27, Try.ntmps27
  go_wp2
  go_loop [0] (fun v => ∃ m : Nat, m < 18446744073709551616 ∧ fold16 m = fold16 n ∧ v = .int .u64 (m : Int)) (fun v => (intOf v).toNat)
  case atStart => exact ⟨n, h, rfl, rfl⟩
  case round =>
    obtain ⟨m, hm, hf, rfl⟩ := hrel
    have HF := Lib.hid hf
    clear hf
    by_cases hb : 65535 < m
    · go_wp2
      rw [fold_and m hm, show ((m % 65536 : Nat) : Int) + (m : Int) / 65536 = ((m % 65536 + m / 65536 : Nat) : Int) from by omega, IntWalk.u64_in _ (by omega)]
      exact ⟨⟨_, by omega, (fold16_step m hb).trans HF.out, rfl⟩, by simp [intOf]; omega⟩
    · go_wp2
      go_ret
      exact ⟨by rw [← HF.out, fold16_small m (by omega)]; rfl, rfl⟩

set_option maxHeartbeats 800000 in
theorem sum_any (ps : List (List UInt8)) (A : Option Addr) (c : Nat) (w : World) (hA : RP w A ps) (hn : ps.length ≤ 100000) (hl : ps.flatten.length ≤ 4000000) :
    Calls Try.prog 61 #[.slice A ps.length c] w fun e w' => e = .returned (.int .u16 (cks ps.flatten : Int)) ∧ w' = w := by
  go_enter Try.func61, Try.ntmps61
  go_wp2
  go_loop [3, 4, 11] (fun s hi i => ∃ k : Nat, k ≤ ps.length ∧ i = .int .i64 (k : Int) ∧ s = .int .u64 (wsum true (ps.take k).flatten : Int) ∧ hi = .bool (hib (ps.take k).flatten)) (fun _ _ i => ps.length - (intOf i).toNat)
  case atStart => exact ⟨0, Nat.zero_le _, rfl, rfl, rfl⟩
  case round =>
    obtain ⟨k, hk, rfl, rfl, rfl⟩ := hrel
    by_cases hlt : k < ps.length
    · obtain ⟨ad, B, cb, rfl, hcell, hcb, hB⟩ := hA.at_ k hlt
      have HS := Lib.hid (flat_snoc ps k hlt)
      have hle := flat_le ps (k + 1)
      rw [HS.out, List.length_append] at hle
      generalize (ps.take k).flatten = pre at *
      generalize ps[k] = xs at *
      go_wp2
      go_loop [3, 4, 17] (fun s hi i => ∃ j : Nat, j ≤ xs.length ∧ i = .int .i64 (j : Int) ∧ s = .int .u64 (wsum true (pre ++ xs.take j) : Int) ∧ hi = .bool (hib (pre ++ xs.take j))) (fun _ _ i => xs.length - (intOf i).toNat)
      case atStart => exact ⟨0, Nat.zero_le _, rfl, by simp, by simp⟩
      case round =>
        obtain ⟨j, hj, rfl, rfl, rfl⟩ := hrel
        by_cases hjl : j < xs.length
        · obtain ⟨bd, rfl, hb⟩ := hB.at_ j hjl
          have H1 := Lib.hid (wsum_hib (pre ++ xs.take j) xs[j])
          have H2 := Lib.hid (hib_snoc (pre ++ xs.take j) xs[j])
          have H3 := Lib.hid (take_snoc xs j hjl)
          have hw := wsum_le (pre ++ xs.take j) true
          have hwl : (pre ++ xs.take j).length ≤ 4000000 := by rw [List.length_append, List.length_take]; omega
          generalize hq : pre ++ xs.take j = q at *
          have HQ := Lib.hid hq
          clear hq
          have hbl := xs[j].toNat_lt
          generalize xs[j] = b at *
          cases hh : hib q
          · have HH := Lib.hid hh
            clear hh
            go_wp2
            go_round
            case rel => exact ⟨j + 1, by omega, by go_num, by rw [H3.out, ← List.append_assoc, HQ.out, H1.out, HH.out]; go_num, by rw [H3.out, ← List.append_assoc, HQ.out, H2.out, HH.out]; rfl⟩
            case measure => simp [intOf]; omega
          · have HH := Lib.hid hh
            clear hh
            go_wp2
            go_round
            case rel => exact ⟨j + 1, by omega, by go_num, by rw [H3.out, ← List.append_assoc, HQ.out, H1.out, HH.out]; go_num, by rw [H3.out, ← List.append_assoc, HQ.out, H2.out, HH.out]; rfl⟩
            case measure => simp [intOf]; omega
        · go_wp2
          obtain rfl : j = xs.length := by omega
          go_round
          case rel => exact ⟨k + 1, by omega, by go_num, by rw [HS.out, List.take_length], by rw [HS.out, List.take_length]⟩
          case measure => simp [intOf]; omega
    · have hw := wsum_le (ps.take k).flatten true
      have hle := flat_le ps k
      obtain rfl : k = ps.length := by omega
      rw [List.take_length] at *
      go_wp2_with (go_at_call 27; refine (fold_any _ _ (by omega)).mono ?_; rintro e w' ⟨rfl, rfl⟩)
      go_ret
      exact ⟨by simp only [cks]; exact congrArg (fun x => Ending.returned (.int .u16 x)) (not16 _ (fold16_le _)), rfl⟩


end Go.Proofs.Ytbhdjalpkecbeaa
