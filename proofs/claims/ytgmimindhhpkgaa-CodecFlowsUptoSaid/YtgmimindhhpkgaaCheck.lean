/- The walk of sum.Check. -/
import Derived.Test.YtgmimindhhpkgaaProg
import Derived.Test.YtgmimindhhpkgaaBits
namespace Go.Proofs.Ytgmimindhhpkgaa
set_option linter.unusedVariables false
set_option linter.unusedSimpArgs false
open Go.RowKit

set_option maxHeartbeats 1600000 in
theorem check_any (ps : List (List UInt8)) (A : Option Addr) (c : Nat) (w : World) (hA : RP w A ps) (hn : ps.length ≤ 100000) (hl : ps.flatten.length ≤ 4000000) :
    Calls Try.prog 32 #[.slice A ps.length c] w fun e w' => e = .returned (.int .u32 (crc ps.flatten : Int)) ∧ w' = w := by
  go_enter Try.func32, Try.ntmps32
  go_wp2
  go_loop [3, 11] (fun s i => ∃ k : Nat, k ≤ ps.length ∧ i = .int .i64 (k : Int) ∧ s = .int .u32 (crcL 4294967295 (ps.take k).flatten : Int)) (fun _ i => ps.length - (intOf i).toNat)
  case atStart => exact ⟨0, Nat.zero_le _, rfl, rfl⟩
  case round =>
    obtain ⟨k, hk, rfl, rfl⟩ := hrel
    by_cases hlt : k < ps.length
    · obtain ⟨ad, B, cb, rfl, hcell, hcb, hB⟩ := hA.at_ k hlt
      have HS := Lib.hid (flat_snoc ps k hlt)
      have hle := flat_le ps (k + 1)
      rw [HS.out, List.length_append] at hle
      generalize (ps.take k).flatten = pre at *
      generalize ps[k] = xs at *
      go_wp2
      go_loop [3, 17] (fun s i => ∃ j : Nat, j ≤ xs.length ∧ i = .int .i64 (j : Int) ∧ s = .int .u32 (crcL 4294967295 (pre ++ xs.take j) : Int)) (fun _ i => xs.length - (intOf i).toNat)
      case atStart => exact ⟨0, Nat.zero_le _, rfl, by simp⟩
      case round =>
        obtain ⟨j, hj, rfl, rfl⟩ := hrel
        by_cases hjl : j < xs.length
        · obtain ⟨bd, rfl, hb⟩ := hB.at_ j hjl
          have H1 := Lib.hid (crcL_snoc 4294967295 (pre ++ xs.take j) xs[j])
          have H3 := Lib.hid (take_snoc xs j hjl)
          have hw := crcL_lt (r := 4294967295) (by omega) (pre ++ xs.take j)
          generalize hq : pre ++ xs.take j = q at *
          have HQ := Lib.hid hq
          clear hq
          have hbl := xs[j].toNat_lt
          generalize xs[j] = b at *
          generalize crcL 4294967295 q = r at *
          have hx := u32_byte r b hw
          have hr0 : r ^^^ b.toNat < 4294967296 := xor_lt32 hw (by omega)
          have HR0 : Hid (r ^^^ b.toNat = r ^^^ b.toNat) := rfl
          generalize hr0e : r ^^^ b.toNat = r0 at hx hr0
          have HE := Lib.hid hr0e
          clear hr0e HR0
          go_wp2
          clear hx
          go_loop [3, 25] (fun s i => ∃ m : Nat, m ≤ 8 ∧ i = .int .i64 (m : Int) ∧ s = .int .u32 (crcN m r0 : Int)) (fun _ i => 8 - (intOf i).toNat)
          case atStart => exact ⟨0, Nat.zero_le _, rfl, rfl⟩
          case round =>
            obtain ⟨m, hm, rfl, rfl⟩ := hrel
            by_cases hm8 : m < 8
            · have hcl := crcN_lt hr0 m
              have H4 : Hid (crcN (m + 1) r0 = crc1 (crcN m r0)) := rfl
              generalize crcN m r0 = v at *
              have e1 := u32_and1 v hcl
              have e2 : bits .xor .u32 ((v : Int) / 2) 3988292384 = ((v / 2 ^^^ 3988292384 : Nat) : Int) := by rw [show (v : Int) / 2 = ((v / 2 : Nat) : Int) from by omega]; exact u32_poly (v / 2) (by omega)
              by_cases hp : v % 2 = 1
              · have H5 : Hid (crc1 v = (v / 2) ^^^ 3988292384) := by show crc1 v = _; unfold crc1; rw [if_pos hp]
                have e3 : (((v % 2 : Nat) : Int) == 1) = true := by rw [hp]; rfl
                clear hp
                go_wp2
                go_round
                case rel => exact ⟨m + 1, by omega, by go_num, by rw [H4.out, H5.out]⟩
                case measure => simp [intOf]; omega
              · have H5 : Hid (crc1 v = v / 2) := by show crc1 v = _; unfold crc1; rw [if_neg hp]
                have e3 : (((v % 2 : Nat) : Int) == 1) = false := by rw [show v % 2 = 0 from by omega]; rfl
                clear hp
                go_wp2
                go_round
                case rel => exact ⟨m + 1, by omega, by go_num, by rw [H4.out, H5.out]; rfl⟩
                case measure => simp [intOf]; omega
            · obtain rfl : m = 8 := by omega
              go_wp2
              go_round
              case rel => exact ⟨j + 1, by omega, by go_num, by rw [H3.out, ← List.append_assoc, HQ.out, H1.out]; unfold crcB; rw [HE.out]⟩
              case measure => simp [intOf]; omega
        · go_wp2
          obtain rfl : j = xs.length := by omega
          go_round
          case rel => exact ⟨k + 1, by omega, by go_num, by rw [HS.out, List.take_length]⟩
          case measure => simp [intOf]; omega
    · have hw := crcL_lt (r := 4294967295) (by omega) ps.flatten
      obtain rfl : k = ps.length := by omega
      rw [List.take_length] at *
      have e1 := not32 (crcL 4294967295 ps.flatten) (by omega)
      go_wp2
      go_ret
      exact ⟨rfl, rfl⟩


end Go.Proofs.Ytgmimindhhpkgaa
