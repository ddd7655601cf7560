/- The walks of package sum: fold, Sum, Good. -/
import Derived.Test.YtgacikbjjdmcjaaProg
import Derived.Test.YtgacikbjjdmcjaaApp
import Derived.Test.YtgacikbjjdmcjaaSumPure
namespace Go.Proofs.Ytgacikbjjdmcjaa
set_option linter.unusedVariables false
set_option linter.unusedSimpArgs false
open Go.RowKit

theorem fold_and (m : Nat) (h : m < 18446744073709551616) : bits .and .u64 (m : Int) 65535 = ((m % 65536 : Nat) : Int) := by
  have h1 := u64_and_nat m 65535 h (by omega)
  rw [nat_mask16] at h1
  exact h1

set_option maxHeartbeats 400000 in
theorem fold_any (n : Nat) (w : World) (h : n < 18446744073709551616) :
    Calls Try.prog 21 #[.int .u64 (n : Int)] w fun e w' => e = .returned (.int .u16 (fold16 n : Int)) ∧ w' = w := by
  go_enter Try.func21, Try.ntmps21
  go_wp2
  go_loop [0] (fun v => ∃ m : Nat, m < 18446744073709551616 ∧ fold16 m = fold16 n ∧ v = .int .u64 (m : Int)) (fun v => (intOf v).toNat)
  case atStart => exact ⟨n, h, rfl, rfl⟩
  case round =>
    obtain ⟨m, hm, hf, rfl⟩ := hrel
    have HF := Lib.hid hf
    clear hf
    by_cases hb : 65535 < m
    · go_wp2
      rw [fold_and m hm, show ((m % 65536 : Nat) : Int) + (m : Int) / 65536 = ((m % 65536 + m / 65536 : Nat) : Int) from by omega, IntWalk.u64_in _ (by omega)]
      exact ⟨⟨_, by omega, (fold16_step m hb).trans HF.out, rfl⟩, by simp [intOf]; omega⟩
    · go_wp2
      go_ret
      exact ⟨by rw [← HF.out, fold16_small m (by omega)]; rfl, rfl⟩

theorem nat_not (k n : Nat) (h : n < 2 ^ k) : (2 ^ k - 1) ^^^ n = 2 ^ k - 1 - n := by
  have h1 := BitVec.toNat_not (x := BitVec.ofNat k n)
  rw [BitVec.not_def, BitVec.toNat_xor, BitVec.toNat_allOnes, BitVec.toNat_ofNat, Nat.mod_eq_of_lt h] at h1
  exact h1
theorem not16 (n : Nat) (h : n ≤ 65535) : bits .xor .u16 IntKind.u16.max (n : Int) = ((65535 - n : Nat) : Int) := by
  have h1 := u16_xor_nat 65535 n (by omega) (by omega)
  rw [nat_not 16 n (by omega)] at h1
  exact h1

set_option maxHeartbeats 800000 in
theorem sum_any (ps : List (List UInt8)) (A : Option Addr) (c : Nat) (w : World) (hA : RP w A ps) (hn : ps.length ≤ 100000) (hl : ps.flatten.length ≤ 4000000) :
    Calls Try.prog 14 #[.slice A ps.length c] w fun e w' => e = .returned (.int .u16 (cks ps.flatten : Int)) ∧ w' = w := by
  go_enter Try.func14, Try.ntmps14
  go_wp2
  go_loop [3, 4, 11] (fun s hi i => ∃ k : Nat, k ≤ ps.length ∧ i = .int .i64 (k : Int) ∧ s = .int .u64 (wsum true (ps.take k).flatten : Int) ∧ hi = .bool (hib (ps.take k).flatten)) (fun _ _ i => ps.length - (intOf i).toNat)
  case atStart => exact ⟨0, Nat.zero_le _, rfl, rfl, rfl⟩
  case round =>
    obtain ⟨k, hk, rfl, rfl, rfl⟩ := hrel
    by_cases hlt : k < ps.length
    · obtain ⟨ad, B, cb, rfl, hcell, hcb, hB⟩ := hA.at_ k hlt
      have HS := Lib.hid (flat_snoc ps k hlt)
      have hle := flat_le ps (k + 1)
      rw [HS.out, List.length_append] at hle
      generalize (ps.take k).flatten = pre at *
      generalize ps[k] = xs at *
      go_wp2
      go_loop [3, 4, 17] (fun s hi i => ∃ j : Nat, j ≤ xs.length ∧ i = .int .i64 (j : Int) ∧ s = .int .u64 (wsum true (pre ++ xs.take j) : Int) ∧ hi = .bool (hib (pre ++ xs.take j))) (fun _ _ i => xs.length - (intOf i).toNat)
      case atStart => exact ⟨0, Nat.zero_le _, rfl, by simp, by simp⟩
      case round =>
        obtain ⟨j, hj, rfl, rfl, rfl⟩ := hrel
        by_cases hjl : j < xs.length
        · obtain ⟨bd, rfl, hb⟩ := hB.at_ j hjl
          have H1 := Lib.hid (wsum_hib (pre ++ xs.take j) xs[j])
          have H2 := Lib.hid (hib_snoc (pre ++ xs.take j) xs[j])
          have H3 := Lib.hid (take_snoc xs j hjl)
          have hw := wsum_le (pre ++ xs.take j) true
          have hwl : (pre ++ xs.take j).length ≤ 4000000 := by rw [List.length_append, List.length_take]; omega
          generalize hq : pre ++ xs.take j = q at *
          have HQ := Lib.hid hq
          clear hq
          have hbl := xs[j].toNat_lt
          generalize xs[j] = b at *
          cases hh : hib q
          · have HH := Lib.hid hh
            clear hh
            go_wp2
            go_round
            case rel => exact ⟨j + 1, by omega, by go_num, by rw [H3.out, ← List.append_assoc, HQ.out, H1.out, HH.out]; go_num, by rw [H3.out, ← List.append_assoc, HQ.out, H2.out, HH.out]; rfl⟩
            case measure => simp [intOf]; omega
          · have HH := Lib.hid hh
            clear hh
            go_wp2
            go_round
            case rel => exact ⟨j + 1, by omega, by go_num, by rw [H3.out, ← List.append_assoc, HQ.out, H1.out, HH.out]; go_num, by rw [H3.out, ← List.append_assoc, HQ.out, H2.out, HH.out]; rfl⟩
            case measure => simp [intOf]; omega
        · go_wp2
          obtain rfl : j = xs.length := by omega
          go_round
          case rel => exact ⟨k + 1, by omega, by go_num, by rw [HS.out, List.take_length], by rw [HS.out, List.take_length]⟩
          case measure => simp [intOf]; omega
    · have hw := wsum_le (ps.take k).flatten true
      have hle := flat_le ps k
      obtain rfl : k = ps.length := by omega
      rw [List.take_length] at *
      go_wp2_with (go_at_call 21; refine (fold_any _ _ (by omega)).mono ?_; rintro e w' ⟨rfl, rfl⟩)
      go_ret
      exact ⟨by simp only [cks]; exact congrArg (fun x => Ending.returned (.int .u16 x)) (not16 _ (fold16_le _)), rfl⟩

theorem not32 (n : Nat) (h : n ≤ 4294967295) : bits .xor .u32 IntKind.u32.max (n : Int) = ((4294967295 - n : Nat) : Int) := by
  have h1 := u32_xor_nat 4294967295 n (by omega) (by omega)
  rw [nat_not 32 n (by omega)] at h1
  exact h1
theorem u32_and1 (n : Nat) (h : n < 4294967296) : bits .and .u32 (n : Int) 1 = ((n % 2 : Nat) : Int) := by
  have h1 := u32_and_nat n 1 h (by omega)
  rw [nat_mask1] at h1
  exact h1
theorem u32_poly (n : Nat) (h : n < 4294967296) : bits .xor .u32 (n : Int) 3988292384 = ((n ^^^ 3988292384 : Nat) : Int) := u32_xor_nat n 3988292384 h (by omega)
theorem u32_byte (n : Nat) (b : UInt8) (h : n < 4294967296) : bits .xor .u32 (n : Int) (b.toNat : Int) = ((n ^^^ b.toNat : Nat) : Int) := u32_xor_nat n b.toNat h (by have := b.toNat_lt; omega)

set_option maxHeartbeats 1600000 in
theorem check_any (ps : List (List UInt8)) (A : Option Addr) (c : Nat) (w : World) (hA : RP w A ps) (hn : ps.length ≤ 100000) (hl : ps.flatten.length ≤ 4000000) :
    Calls Try.prog 13 #[.slice A ps.length c] w fun e w' => e = .returned (.int .u32 (crc ps.flatten : Int)) ∧ w' = w := by
  go_enter Try.func13, Try.ntmps13
  go_wp2
  go_loop [3, 11] (fun s i => ∃ k : Nat, k ≤ ps.length ∧ i = .int .i64 (k : Int) ∧ s = .int .u32 (crcL 4294967295 (ps.take k).flatten : Int)) (fun _ i => ps.length - (intOf i).toNat)
  case atStart => exact ⟨0, Nat.zero_le _, rfl, rfl⟩
  case round =>
    obtain ⟨k, hk, rfl, rfl⟩ := hrel
    by_cases hlt : k < ps.length
    · obtain ⟨ad, B, cb, rfl, hcell, hcb, hB⟩ := hA.at_ k hlt
      have HS := Lib.hid (flat_snoc ps k hlt)
      have hle := flat_le ps (k + 1)
      rw [HS.out, List.length_append] at hle
      generalize (ps.take k).flatten = pre at *
      generalize ps[k] = xs at *
      go_wp2
      go_loop [3, 17] (fun s i => ∃ j : Nat, j ≤ xs.length ∧ i = .int .i64 (j : Int) ∧ s = .int .u32 (crcL 4294967295 (pre ++ xs.take j) : Int)) (fun _ i => xs.length - (intOf i).toNat)
      case atStart => exact ⟨0, Nat.zero_le _, rfl, by simp⟩
      case round =>
        obtain ⟨j, hj, rfl, rfl⟩ := hrel
        by_cases hjl : j < xs.length
        · obtain ⟨bd, rfl, hb⟩ := hB.at_ j hjl
          have H1 := Lib.hid (crcL_snoc 4294967295 (pre ++ xs.take j) xs[j])
          have H3 := Lib.hid (take_snoc xs j hjl)
          have hw := crcL_lt (r := 4294967295) (by omega) (pre ++ xs.take j)
          generalize hq : pre ++ xs.take j = q at *
          have HQ := Lib.hid hq
          clear hq
          have hbl := xs[j].toNat_lt
          generalize xs[j] = b at *
          generalize crcL 4294967295 q = r at *
          have hx := u32_byte r b hw
          have hr0 : r ^^^ b.toNat < 4294967296 := xor_lt32 hw (by omega)
          have HR0 : Hid (r ^^^ b.toNat = r ^^^ b.toNat) := rfl
          generalize hr0e : r ^^^ b.toNat = r0 at hx hr0
          have HE := Lib.hid hr0e
          clear hr0e HR0
          go_wp2
          clear hx
          go_loop [3, 25] (fun s i => ∃ m : Nat, m ≤ 8 ∧ i = .int .i64 (m : Int) ∧ s = .int .u32 (crcN m r0 : Int)) (fun _ i => 8 - (intOf i).toNat)
          case atStart => exact ⟨0, Nat.zero_le _, rfl, rfl⟩
          case round =>
            obtain ⟨m, hm, rfl, rfl⟩ := hrel
            by_cases hm8 : m < 8
            · have hcl := crcN_lt hr0 m
              have H4 : Hid (crcN (m + 1) r0 = crc1 (crcN m r0)) := rfl
              generalize crcN m r0 = v at *
              have e1 := u32_and1 v hcl
              have e2 : bits .xor .u32 ((v : Int) / 2) 3988292384 = ((v / 2 ^^^ 3988292384 : Nat) : Int) := by rw [show (v : Int) / 2 = ((v / 2 : Nat) : Int) from by omega]; exact u32_poly (v / 2) (by omega)
              by_cases hp : v % 2 = 1
              · have H5 : Hid (crc1 v = (v / 2) ^^^ 3988292384) := by show crc1 v = _; unfold crc1; rw [if_pos hp]
                have e3 : (((v % 2 : Nat) : Int) == 1) = true := by rw [hp]; rfl
                clear hp
                go_wp2
                go_round
                case rel => exact ⟨m + 1, by omega, by go_num, by rw [H4.out, H5.out]⟩
                case measure => simp [intOf]; omega
              · have H5 : Hid (crc1 v = v / 2) := by show crc1 v = _; unfold crc1; rw [if_neg hp]
                have e3 : (((v % 2 : Nat) : Int) == 1) = false := by rw [show v % 2 = 0 from by omega]; rfl
                clear hp
                go_wp2
                go_round
                case rel => exact ⟨m + 1, by omega, by go_num, by rw [H4.out, H5.out]; rfl⟩
                case measure => simp [intOf]; omega
            · obtain rfl : m = 8 := by omega
              go_wp2
              go_round
              case rel => exact ⟨j + 1, by omega, by go_num, by rw [H3.out, ← List.append_assoc, HQ.out, H1.out]; unfold crcB; rw [HE.out]⟩
              case measure => simp [intOf]; omega
        · go_wp2
          obtain rfl : j = xs.length := by omega
          go_round
          case rel => exact ⟨k + 1, by omega, by go_num, by rw [HS.out, List.take_length]⟩
          case measure => simp [intOf]; omega
    · have hw := crcL_lt (r := 4294967295) (by omega) ps.flatten
      obtain rfl : k = ps.length := by omega
      rw [List.take_length] at *
      have e1 := not32 (crcL 4294967295 ps.flatten) (by omega)
      go_wp2
      go_ret
      exact ⟨rfl, rfl⟩

theorem three (p q n : Nat) (hp : p ≤ 65535) (hq : q ≤ 65535) (hn : n ≤ 65535) :
    IntKind.u64.wrap (IntKind.u64.wrap (IntKind.u64.wrap (p : Int) + IntKind.u64.wrap (q : Int)) + (n : Int)) = ((p + q + n : Nat) : Int) := by
  rw [IntWalk.u64_in (p : Int) (by omega), IntWalk.u64_in (q : Int) (by omega), IntWalk.u64_in ((p : Int) + q) (by omega), IntWalk.u64_in ((p : Int) + q + n) (by omega)]
  omega
set_option maxHeartbeats 800000 in
theorem update_any (c0 : Nat) (ps : List (Nat × Nat)) (A : Option Addr) (c : Nat) (w : World) (h0 : c0 ≤ 65535) (hA : RQ w A ps) (hn : ps.length ≤ 4000000) :
    Calls Try.prog 11 #[.int .u16 (c0 : Int), .slice A ps.length c] w fun e w' => e = .returned (.int .u16 (upd c0 ps : Int)) ∧ Below w.heap.size w w' := by
  go_enter Try.func11, Try.ntmps11
  go_wp2
  go_loopw [0, 9] (fun s i wr => ∃ k : Nat, k ≤ ps.length ∧ i = .int .i64 (k : Int) ∧ s = .int .u16 (upd c0 (ps.take k) : Int) ∧ Below w.heap.size w wr) (fun _ i _ => ps.length - (intOf i).toNat)
  case atStart => exact ⟨0, Nat.zero_le _, rfl, rfl, Below.refl _ _⟩
  case round =>
    obtain ⟨k, hk, rfl, rfl, hb⟩ := hrel
    by_cases hlt : k < ps.length
    · obtain ⟨hp1, hp2, ad, rfl, hc1, hc2⟩ := (hA.below hb) k hlt
      have hu := upd_le h0 (ps.take k)
      have H1 := Lib.hid (upd_snoc c0 (ps.take k) ps[k])
      have H3 := Lib.hid (take_snoc ps k hlt)
      generalize upd c0 (ps.take k) = u at *
      generalize hp : ps[k] = p at *
      clear hp
      obtain ⟨o, n⟩ := p
      simp only at hp1 hp2 hc1 hc2
      have e1 := not16 u hu
      have e2 := not16 o hp1
      have hcc : ∀ j v, [Value.int .u16 (o : Int), Value.int .u16 (n : Int)][j]? = some v → wr.cell? ((ad.add (k * 2)).add j) = some v := fun j v hv => by
        rw [add_add']
        match j, hv with
        | 0, hv => simp at hv; subst hv; exact hc1
        | 1, hv => simp at hv; subst hv; exact hc2
      go_wp2_with (with_reducible refine wl_load rfl 26 (.tmp 11) rfl _ rfl _ _ hcc Try.underlying26 rfl (by kernel_rfl) ?_)
      have e3 := three (65535 - u) (65535 - o) n (by omega) (by omega) hp2
      rw [e3]
      clear e3
      refine (fold_any _ _ (by omega)).mono ?_
      rintro e w' ⟨rfl, rfl⟩
      have e4 := not16 _ (fold16_le (65535 - u + (65535 - o) + n))
      have H5 : Hid (upd1 u (o, n) = 65535 - fold16 (65535 - u + (65535 - o) + n)) := rfl
      generalize fold16 (65535 - u + (65535 - o) + n) = f at *
      go_wp2
      go_roundw
      case rel => exact ⟨k + 1, by omega, by go_num, by rw [H3.out, H1.out, H5.out], hb.alloc hb.size _⟩
      case measure => simp [intOf]; omega
    · obtain rfl : k = ps.length := by omega
      go_wp2
      go_ret
      exact ⟨by rw [List.take_length]; rfl, hb⟩
end Go.Proofs.Ytgacikbjjdmcjaa
