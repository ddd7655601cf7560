/- The walk of towpathref02.Check. -/
import Derived.Test.YtgmimindhhpkgaaProg
import Derived.Test.YtgmimindhhpkgaaBits
namespace Go.Proofs.Ytgmimindhhpkgaa
set_option linter.unusedVariables false
set_option linter.unusedSimpArgs false
open Go.RowKit

set_option maxHeartbeats 800000 in
theorem rcheck_any (xs : List UInt8) (A : Option Addr) (c : Nat) (w : World) (hA : RB w A xs) (hl : xs.length ≤ 4000000) :
    Calls Try.prog 35 #[.slice A xs.length c] w fun e w' => e = .returned (.int .u32 (crc xs : Int)) ∧ w' = w := by
  go_enter Try.func35, Try.ntmps35
  go_wp2
  go_loop [3, 4] (fun s i => ∃ j : Nat, j ≤ xs.length ∧ i = .int .i64 (j : Int) ∧ s = .int .u32 (crcL 4294967295 (xs.take j) : Int)) (fun _ i => xs.length - (intOf i).toNat)
  case atStart => exact ⟨0, Nat.zero_le _, rfl, by rw [List.take_zero]; rfl⟩
  case round =>
    obtain ⟨j, hj, rfl, rfl⟩ := hrel
    by_cases hjl : j < xs.length
    · obtain ⟨bd, rfl, hb⟩ := hA.at_ j hjl
      have H1 := Lib.hid (crcL_snoc 4294967295 (xs.take j) xs[j])
      have H3 := Lib.hid (take_snoc xs j hjl)
      have hw := crcL_lt (r := 4294967295) (by omega) (xs.take j)
      have hbl := xs[j].toNat_lt
      generalize xs[j] = b at *
      generalize crcL 4294967295 (xs.take j) = r at *
      have hx := u32_byte r b hw
      have hr0 : r ^^^ b.toNat < 4294967296 := xor_lt32 hw (by omega)
      generalize hr0e : r ^^^ b.toNat = r0 at hx hr0
      have HE := Lib.hid hr0e
      clear hr0e
      go_wp2
      clear hx
      go_loop [3, 5] (fun s i => ∃ m : Nat, m ≤ 8 ∧ i = .int .i64 (m : Int) ∧ s = .int .u32 (crcN m r0 : Int)) (fun _ i => 8 - (intOf i).toNat)
      case atStart => exact ⟨0, Nat.zero_le _, rfl, rfl⟩
      case round =>
        obtain ⟨m, hm, rfl, rfl⟩ := hrel
        by_cases hm8 : m < 8
        · have hcl := crcN_lt hr0 m
          have H4 : Hid (crcN (m + 1) r0 = crc1 (crcN m r0)) := rfl
          generalize crcN m r0 = v at *
          have e2 : bits .xor .u32 ((v : Int) / 2) 3988292384 = ((v / 2 ^^^ 3988292384 : Nat) : Int) := by rw [show (v : Int) / 2 = ((v / 2 : Nat) : Int) from by omega]; exact u32_poly (v / 2) (by omega)
          by_cases hp : v % 2 = 1
          · have H5 : Hid (crc1 v = (v / 2) ^^^ 3988292384) := by show crc1 v = _; unfold crc1; rw [if_pos hp]
            have e3 : ((v : Int) % 2 == 1) = true := by rw [beq_iff_eq]; omega
            clear hp
            go_wp2
            go_round
            case rel => exact ⟨m + 1, by omega, by go_num, by rw [H4.out, H5.out]⟩
            case measure => simp [intOf]; omega
          · have H5 : Hid (crc1 v = v / 2) := by show crc1 v = _; unfold crc1; rw [if_neg hp]
            have e3 : ((v : Int) % 2 == 1) = false := by rw [beq_eq_false_iff_ne]; omega
            clear hp
            go_wp2
            go_round
            case rel => exact ⟨m + 1, by omega, by go_num, by rw [H4.out, H5.out]; rfl⟩
            case measure => simp [intOf]; omega
        · obtain rfl : m = 8 := by omega
          go_wp2
          go_round
          case rel => exact ⟨j + 1, by omega, by go_num, by rw [H3.out, H1.out]; unfold crcB; rw [HE.out]⟩
          case measure => simp [intOf]; omega
    · have hw := crcL_lt (r := 4294967295) (by omega) xs
      obtain rfl : j = xs.length := by omega
      rw [List.take_length] at *
      have e1 : bits .xor .u32 (crcL 4294967295 xs : Int) 4294967295 = ((4294967295 - crcL 4294967295 xs : Nat) : Int) := by
        have h1 := u32_xor_nat (crcL 4294967295 xs) 4294967295 (by omega) (by omega)
        rw [Nat.xor_comm, nat_not 32 _ (by omega)] at h1
        exact h1
      go_wp2
      go_ret
      exact ⟨rfl, rfl⟩


end Go.Proofs.Ytgmimindhhpkgaa
