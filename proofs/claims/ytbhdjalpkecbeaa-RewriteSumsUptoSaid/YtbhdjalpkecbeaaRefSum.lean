/- The walks of towpathref02.carried, joined, Sum. -/
import Derived.Test.YtbhdjalpkecbeaaProg
import Derived.Test.YtbhdjalpkecbeaaBits
import Derived.Test.YtbhdjalpkecbeaaU8
namespace Go.Proofs.Ytbhdjalpkecbeaa
set_option linter.unusedVariables false
set_option linter.unusedSimpArgs false
open Go.RowKit

set_option maxHeartbeats 400000 in
theorem carried_any (n : Nat) (w : World) (h : n < 18446744073709551616) :
    Calls Try.prog 51 #[.int .u64 (n : Int)] w fun e w' => e = .returned (.int .u64 (fold16 n : Int)) ∧ w' = w := by
  go_enter Try.func51, Try.ntmps51
  go_wp2
  go_loop [0] (fun v => ∃ m : Nat, m < 18446744073709551616 ∧ fold16 m = fold16 n ∧ v = .int .u64 (m : Int)) (fun v => (intOf v).toNat)
  case atStart => exact ⟨n, h, rfl, rfl⟩
  case round =>
    obtain ⟨m, hm, hf, rfl⟩ := hrel
    have HF := Lib.hid hf
    clear hf
    by_cases hb : 65535 < m
    · have HS := Lib.hid (fold16_step m hb)
      have hd : decide (65536 ≤ (m : Int)) = true := by rw [decide_eq_true_eq]; omega
      have hlt : m % 65536 + m / 65536 < m := by omega
      clear hb
      go_wp2
      refine ⟨⟨m % 65536 + m / 65536, by omega, HS.out.trans HF.out, ?_⟩, by simp [intOf]; omega⟩
      go_num
    · have HS := Lib.hid (fold16_small m (by omega))
      have hd : decide (65536 ≤ (m : Int)) = false := by rw [decide_eq_false_iff_not]; omega
      clear hb
      go_wp2
      go_ret
      exact ⟨by rw [← HF.out, HS.out]; rfl, rfl⟩

set_option maxHeartbeats 800000 in
theorem joined_any (ps : List (List UInt8)) (A : Option Addr) (c : Nat) (w : World) (hA : RP w A ps) (hn : ps.length ≤ 100000) (hl : ps.flatten.length ≤ 4000000) :
    Calls Try.prog 50 #[.slice A ps.length c] w fun e w' => ∃ v, e = .returned v ∧ w'.ownsRow w.heap.size 5 1 v ps.flatten.length (ps.flatten.map bv) ∧ Below w.heap.size w w' := by
  obtain ⟨i0, hi, hz0, hz1, hz2⟩ := info_parts info_u8
  go_enter Try.func50, Try.ntmps50
  go_wp2
  go_loopw [3, 4] (fun s i wr => ∃ k : Nat, k ≤ ps.length ∧ i = .int .i64 (k : Int) ∧ wr.ownsRow w.heap.size 5 1 s (ps.take k).flatten.length ((ps.take k).flatten.map bv) ∧ Below w.heap.size w wr) (fun _ i _ => ps.length - (intOf i).toNat)
  case atStart => exact ⟨0, Nat.zero_le _, rfl, World.ownsRow_nil _ _ _ _, Below.refl _ _⟩
  case round =>
    obtain ⟨k, hk, rfl, hown, hb⟩ := hrel
    by_cases hlt : k < ps.length
    · obtain ⟨ad, B, cb, rfl, hcell, hcb, hB⟩ := (hA.below hb).at_ k hlt
      have HS := Lib.hid (flat_snoc ps k hlt)
      have hle := flat_le ps (k + 1)
      rw [HS.out, List.length_append] at hle
      generalize (ps.take k).flatten = pre at *
      generalize ps[k] = xs at *
      go_wp2_with (at_builtin; refine wl_app _ rfl (.tmp 11) (.tmp 15) 22 rfl w.heap.size 5 i0 (.int .u8 0) 1 1 Try.underlying22 hi hz0 hz1 hz2 rfl (by omega) _ _ _ rfl hown B xs.length cb (xs.map bv) rfl (by simp) hB (one_bv xs) (by unfold maxLen; omega) (by omega) hb.size ?_)
      intro v' w1 hown1 hg1 _
      have hb1 : Below w.heap.size w w1 := hb.grown hg1 hb.size (fun g hg => (hown.lt g hg).1)
      clear hown hg1
      go_wp2
      go_roundw
      case rel => exact ⟨k + 1, by omega, by go_num, by rw [HS.out, List.length_append, List.map_append]; exact hown1, hb1⟩
      case measure => simp [intOf]; omega
    · obtain rfl : k = ps.length := by omega
      rw [List.take_length] at hown
      go_wp2
      go_ret
      exact ⟨_, rfl, hown, hb⟩

set_option maxHeartbeats 1600000 in
theorem rsum_any (ps : List (List UInt8)) (A : Option Addr) (c : Nat) (w : World) (hA : RP w A ps) (hn : ps.length ≤ 100000) (hl : ps.flatten.length ≤ 4000000) :
    Calls Try.prog 40 #[.slice A ps.length c] w fun e w' => e = .returned (.int .u16 (cks ps.flatten : Int)) ∧ Below w.heap.size w w' := by
  obtain ⟨i0, hi, hz0, hz1, hz2⟩ := info_parts info_u8
  go_enter Try.func40, Try.ntmps40
  go_wp2_with fail
  refine (joined_any ps A c w hA hn hl).mono ?_
  rintro e w1 ⟨v, rfl, hown, hb⟩
  generalize hfl : ps.flatten = fl at *
  have HFL := Lib.hid hfl
  clear hfl
  obtain ⟨B, cb, rfl, hcb, hB, -⟩ := own_form hown
  have HT : Hid (cks fl = 65535 - fold16 (wsum true fl)) := rfl
  have hTl := wsum_le fl true
  have HZ := Lib.hid (wsum_zero fl)
  by_cases hev : fl.length % 2 = 0
  focus
    have hp : (((fl.length : Nat) : Int) % 2 == 1) = false := by rw [beq_eq_false_iff_ne]; omega
    clear HZ hown
    go_wp2
    clear hp
    obtain ⟨l, hle⟩ : ∃ l, fl = l := ⟨_, rfl⟩
    obtain ⟨W, rfl⟩ : ∃ W, W = w1 := ⟨_, rfl⟩
    have HL : Hid (wsum true l = wsum true fl) := by rw [hle]; rfl
    have hll : l.length ≤ 4000001 := by rw [← hle]; omega
    rw [hle] at hev hB
    rw [hle]
    generalize wsum true fl = T at *
    clear hle hcb
  rotate_left
  focus
    have hp : (((fl.length : Nat) : Int) % 2 == 1) = true := by rw [beq_iff_eq]; omega
    go_wp2_with (at_builtin; refine wl_app _ rfl (.tmp 12) (.tmp 13) 22 rfl w.heap.size 5 i0 (.int .u8 0) 1 1 Try.underlying22 hi hz0 hz1 hz2 rfl (by omega) _ _ _ rfl (hown.alloc _) (some ⟨w1.heap.size, 0, none⟩) 1 1 [.int .u8 0] rfl (by simp) (rc_new w1 _ _) (by simp [Value.oneCell']) (by unfold maxLen; omega) (by omega) (by have := hb.size; simp; omega) ?_)
    intro v' W hown2 hg2 _
    have hb2 : Below w.heap.size w W := (hb.alloc hb.size _).grown hg2 (by have := hb.size; simp; omega) (fun g hg => (hown.lt g hg).1)
    clear hown hg2 hp hb hB hcb
    rw [show fl.map bv ++ [.int .u8 0] = (fl ++ [0]).map bv from by simp, show fl.length + 1 = (fl ++ [0]).length from by simp] at hown2
    have hev : (fl ++ [0]).length % 2 = 0 := by rw [List.length_append]; simp; omega
    have hll : (fl ++ [0]).length ≤ 4000001 := by rw [List.length_append]; simp; omega
    generalize fl ++ [0] = l at *
    have HL := HZ
    clear HZ
    generalize wsum true fl = T at *
    obtain ⟨B, cb, rfl, -, hB, -⟩ := own_form hown2
    have hb := hb2
    clear hb2 hown2
    go_wp2
  all_goals
    go_loopw [4, 5] (fun s i wr => ∃ k : Nat, k ≤ l.length ∧ k % 2 = 0 ∧ i = .int .i64 (k : Int) ∧ s = .int .u64 (wsum true (l.take k) : Int) ∧ ∃ n, wr = W.drewN n) (fun _ i _ => l.length - (intOf i).toNat)
    case atStart => exact ⟨0, Nat.zero_le _, rfl, rfl, by rw [List.take_zero]; rfl, 0, rfl⟩
    case round =>
      obtain ⟨k, hk, hk2, rfl, rfl, n, rfl⟩ := hrel
      by_cases hlt : k < l.length
      · obtain ⟨ad, e1, c1⟩ := RB.at_ hB k hlt
        obtain ⟨ad', e2, c2⟩ := RB.at_ hB (k + 1) (by omega)
        subst e1
        obtain rfl : ad = ad' := by injection e2
        clear e2
        rw [add_pos' _ _ (by omega)] at c2
        have H1 := Lib.hid (wsum_two l k hk2 (by omega))
        have b1 := wsum_take_le l k 4000001 hll
        have b2 := (l[k]'hlt).toNat_lt
        have b3 := (l[k + 1]'(by omega)).toNat_lt
        generalize wsum true (l.take k) = s at *
        generalize (l[k]'hlt).toNat = x at *
        generalize (l[k + 1]'(by omega)).toNat = y at *
        have a1 : IntKind.i64.wrap ((k : Int) + 1) = (k : Int) + 1 := IntWalk.i64_in _ (by omega)
        have a2 : (0 : Int) ≤ (k : Int) + 1 := by omega
        have a3 : ((k : Int) + 1).toNat = k + 1 := by omega
        have a4 : (k : Int) + 1 < (l.length : Int) := by omega
        go_wp2
        go_quiet (fail)
        clear a1 a2 a3 a4
        have a5 : IntKind.u64.wrap (IntKind.u64.wrap ((s : Int) + IntKind.u64.wrap (256 * IntKind.u64.wrap (x : Int))) + IntKind.u64.wrap (y : Int)) = ((s + 256 * x + y : Nat) : Int) := by
          rw [IntWalk.u64_in (x : Int) (by omega), IntWalk.u64_in (y : Int) (by omega), IntWalk.u64_in (256 * (x : Int)) (by omega), IntWalk.u64_in ((s : Int) + 256 * (x : Int)) (by omega), IntWalk.u64_in ((s : Int) + 256 * (x : Int) + (y : Int)) (by omega)]
          omega
        go_wp2
        go_roundw
        case rel => exact ⟨k + 2, by omega, by omega, by go_num, by rw [H1.out]; go_num, _, rfl⟩
        case measure => simp [intOf]; omega
      · obtain rfl : k = l.length := by omega
        rw [List.take_length, HL.out]
        go_wp2_with (go_at_call 51; refine (carried_any _ _ (by omega)).mono ?_; rintro e w' ⟨rfl, rfl⟩)
        have hf := fold16_le T
        go_ret
        refine ⟨?_, ?_⟩
        · rw [HFL.out, HT.out]; exact congrArg (fun x => Ending.returned (.int .u16 x)) (by rw [IntWalk.u64_in _ (by omega), IntWalk.u16_in _ (by omega)]; omega)
        · exact ⟨hb.os, hb.tape, hb.output, hb.size, hb.block⟩

end Go.Proofs.Ytbhdjalpkecbeaa
