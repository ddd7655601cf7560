/- The walk of the law SumSlips. -/
import Derived.Test.YtgacikbjjdmcjaaAlive02
import Derived.Test.YtgacikbjjdmcjaaSumSlipPure
namespace Go.Proofs.Ytgacikbjjdmcjaa
set_option linter.unusedVariables false
set_option linter.unusedSimpArgs false
open Go.RowKit

theorem set_slip (l : List UInt8) (i : Nat) (h : i < l.length) (d : UInt8) (hd : d ≠ 0) : crc (l.set i (l[i] ^^^ d)) ≠ crc l := by
  have e1 : l.set i (l[i] ^^^ d) = l.take i ++ (l[i] ^^^ d) :: l.drop (i + 1) := List.set_eq_take_append_cons_drop.trans (if_pos h)
  have e2 : l = l.take i ++ l[i] :: l.drop (i + 1) := by rw [← List.drop_eq_getElem_cons h, List.take_append_drop]
  rw [e1]
  conv => rhs; rw [e2]
  refine crc_slip _ _ _ _ fun e => hd ?_
  have e3 : l[i] ^^^ (l[i] ^^^ d) = l[i] ^^^ l[i] := by rw [e]
  rw [← UInt8.xor_assoc, UInt8.xor_self, UInt8.zero_xor] at e3
  exact e3

theorem mod_index (a : Int) (n : Nat) (h : 0 < n) : ∃ i : Nat, i < n ∧ (IntKind.u64.wrap a).tmod (n : Int) = (i : Int) := by
  have h0 : 0 ≤ IntKind.u64.wrap a := by simp [IntKind.wrap, IntKind.bits, IntKind.signed]; omega
  generalize IntKind.u64.wrap a = b at *
  rw [Int.tmod_eq_emod_of_nonneg h0]
  have h1 := Int.emod_nonneg b (show (n : Int) ≠ 0 by omega)
  have h2 := Int.emod_lt_of_pos b (show (0 : Int) < n by omega)
  exact ⟨(b % n).toNat, by omega, by omega⟩

theorem u8_xor8 (a b : UInt8) : bits .xor .u8 (a.toNat : Int) (b.toNat : Int) = (((a ^^^ b).toNat : Nat) : Int) := by
  rw [UInt8.toNat_xor]
  exact u8_xor_nat _ _ (by have := a.toNat_lt; omega) (by have := b.toNat_lt; omega)

set_option maxHeartbeats 1600000 in
theorem SumSlips_walk (x0 : List UInt8) (A0 : Option Addr) (c0 : Nat) (at_ : Int) (d : Int) (w : World)
    (l0 : x0.length ≤ c0) (r0 : RB w A0 x0) (n0 : x0.length ≤ 1048576) (ha : (Lit.int .i64 at_).wf = true) (hd : (Lit.int .u8 d).wf = true) :
    Calls Try.prog 6 #[.slice A0 x0.length c0, .int .i64 at_, .int .u8 d] w fun e w' => e = .returned (.bool true) ∧ Below w.heap.size w w' := by
  obtain ⟨i0, hi, hz0, hz1, hz2⟩ := info_parts info_u8
  have hd2 : 0 ≤ d ∧ d ≤ 255 := by simpa [Lit.wf, IntKind.min, IntKind.max, IntKind.signed, IntKind.bits] using hd
  clear ha hd
  obtain ⟨y, rfl⟩ : ∃ y : UInt8, d = (y.toNat : Int) := ⟨UInt8.ofNat d.toNat, by rw [UInt8.toNat_ofNat']; omega⟩
  clear hd2
  by_cases h0 : x0.length = 0
  · have t0 : ((x0.length : Int) == 0) = true := by rw [h0]; rfl
    have t1 : ((0 : Int) == 0) = true := rfl
    go_enter Try.func6, Try.ntmps6
    go_wp2_with fail
    refine (alive_any w).mono ?_
    rintro e w1 ⟨rfl, hb1⟩
    go_wp2_with fail
    go_ret
    exact ⟨rfl, hb1⟩
  have t0 : ((x0.length : Int) == 0) = false := by rw [beq_eq_false_iff_ne]; omega
  by_cases h1 : 65536 < x0.length
  · clear h0
    go_enter Try.func6, Try.ntmps6
    go_wp2_with fail
    refine (alive_any w).mono ?_
    rintro e w1 ⟨rfl, hb1⟩
    go_wp2_with fail
    go_ret
    exact ⟨rfl, hb1⟩
  by_cases h2 : y = 0
  · subst h2
    clear h0
    go_enter Try.func6, Try.ntmps6
    go_wp2_with fail
    refine (alive_any w).mono ?_
    rintro e w1 ⟨rfl, hb1⟩
    go_wp2_with fail
    go_ret
    exact ⟨rfl, hb1⟩
  have t2 : ((y.toNat : Int) == 0) = false := by
    rw [beq_eq_false_iff_ne]
    intro e
    exact h2 (UInt8.toNat_inj.1 (by show y.toNat = 0; omega))
  have hpos : 0 < x0.length := by omega
  clear h0
  go_enter Try.func6, Try.ntmps6
  go_wp2_with fail
  refine (alive_any w).mono ?_
  rintro e w1 ⟨rfl, hb1⟩
  have tt := hb1.size
  go_wp2_with (at_builtin; refine wl_app _ rfl (.tmp 22) (.tmp 23) 30 rfl w.heap.size 5 i0 (.int .u8 0) 1 1 Try.underlying30 hi hz0 hz1 hz2 rfl (by omega) _ _ _ rfl (own_empty w1 w.heap.size 5 w1.heap.size rfl hb1.size) A0 x0.length c0 (x0.map bv) rfl (by simp) (r0.below (hb1.alloc hb1.size _)) (one_bv x0) (by unfold maxLen; omega) (by omega) (by simp; omega) ?_)
  intro v2 w2 hown2 hg2 hat2
  have hb2 : Below w.heap.size w w2 := (hb1.alloc hb1.size _).grown hg2 (by simp; omega) (fun g hg => by simp [Value.ownBlock] at hg; omega)
  try simp only [Nat.zero_add, List.nil_append] at hown2
  clear hg2 hat2
  obtain ⟨g, cap, rfl, hbg, hlt⟩ := hown2.form hpos
  have hlc := hb2.size
  -- the place
  obtain ⟨i, hi1, hi2⟩ : ∃ i : Nat, i < x0.length ∧ IntKind.i64.wrap ((IntKind.u64.wrap at_).tmod (x0.length : Int)) = (i : Int) := by
    obtain ⟨i, h1, h2⟩ := mod_index at_ x0.length hpos
    exact ⟨i, h1, by rw [h2]; exact IntWalk.i64_in _ (by omega)⟩
  have cell := hown2.cellAt i (by omega)
  rw [List.getElem?_map, List.getElem?_eq_getElem hi1] at cell
  simp only [Option.map_some] at cell
  have frz := hown2.frozenAt i
  have hx := u8_xor8 x0[i] y
  have HSL := Lib.hid (set_slip x0 i hi1 y h2)
  have hown3 := (hown2.stored i (.int .u8 ((x0[i] ^^^ y).toNat : Int))).1
  have hcap : x0.length ≤ cap := by obtain ⟨A, cc, e, h, _⟩ := own_form hown2; injection e with e1 e2 e3; omega
  have hb3 : Below w.heap.size w (w2.setCell ⟨g, i, none⟩ (.int .u8 ((x0[i] ^^^ y).toNat : Int))) := hb2.setCell hbg _
  generalize x0[i] ^^^ y = z at *
  generalize x0[i] = x at *
  clear h2
  have hs : Hid ((x0.map bv).set i (.int .u8 (z.toNat : Int)) = (x0.set i z).map bv) := by show (x0.map bv).set i (bv z) = _; rw [List.map_set]
  rw [hs.out] at hown3
  have R1 := RC.of_own hown3
  have hl1 : Hid ((x0.set i z).length = x0.length) := by show (x0.set i z).length = _; rw [List.length_set]
  clear hown2 hown3
  have R0 := r0.below hb3
  generalize x0.set i z = x1 at *
  have RX : RB _ _ x1 := R1
  clear R1
  have hx1 : x1.length ≤ 1048576 := by rw [hl1.out]; exact n0
  go_wp2_with fail
  refine (check_any [x1] _ _ _ ?s1 (by simp) (by simp; omega)).mono ?_
  case s1 => rw [← hl1.out]; exact rp1 _ _ _ _ x1 (by rw [hl1.out]; exact hcap) RX (by simp)
  rintro e w3 ⟨rfl, hw⟩
  have hb4 : Below w.heap.size w w3 := by rw [hw]; exact hb3.alloc hb3.size _
  clear hw
  rw [show [x1].flatten = x1 from by simp]
  go_wp2_with fail
  refine (check_any [x0] _ _ _ ?s2 (by simp) (by simp; omega)).mono ?_
  case s2 => exact rp1 _ _ _ _ x0 l0 (r0.below hb4) (by simp)
  rintro e w4 ⟨rfl, hw⟩
  have hb5 : Below w.heap.size w w4 := by rw [hw]; exact hb4.alloc hb4.size _
  clear hw
  rw [show [x0].flatten = x0 from by simp]
  have hne : ((crc x1 : Int) != (crc x0 : Int)) = true := by
    rw [bne_iff_ne]
    intro e
    exact HSL.out (by omega)
  generalize crc x1 = a at *
  generalize crc x0 = b at *
  go_wp2_with fail
  go_ret
  exact ⟨rfl, hb5⟩
end Go.Proofs.Ytgacikbjjdmcjaa
