/- The walk of the law CodecSlips. -/
import Derived.Test.YtgmimindhhpkgaaCodecParsesWalk
import Derived.Test.YtgmimindhhpkgaaCodecSlipPure
import Derived.Test.YtgmimindhhpkgaaMsgOpen
import Derived.Lib.IfaceEq
namespace Go.Proofs.Ytgmimindhhpkgaa
set_option linter.unusedVariables false
set_option linter.unusedSimpArgs false
open Go.RowKit

theorem er_eql (a b : Int) (W : World) : (binOp .eql 30 (.iface 47 (.int .i64 a)) (.iface 47 (.int .i64 b))).run Try.prog W = .ok (.bool (a == b)) W :=
  Lib.run_eql_iface_int W a b (q := .i64) Try.underlying30 (by kernel_rfl) Try.underlying47
theorem mod_index (a : Int) (n : Nat) (h : 0 < n) : ∃ i : Nat, i < n ∧ (IntKind.u64.wrap a).tmod (n : Int) = (i : Int) := by
  have h0 : 0 ≤ IntKind.u64.wrap a := by simp [IntKind.wrap, IntKind.bits, IntKind.signed]; omega
  generalize IntKind.u64.wrap a = b at *
  rw [Int.tmod_eq_emod_of_nonneg h0]
  have h1 := Int.emod_nonneg b (show (n : Int) ≠ 0 by omega)
  have h2 := Int.emod_lt_of_pos b (show (0 : Int) < n by omega)
  exact ⟨(b % n).toNat, by omega, by omega⟩
theorem slip_set {m : Mg} {i : Nat} (h : i < (frame m).length) {d : UInt8} (hd : d ≠ 0) : ∀ m', ¬ IsFrame ((frame m).set i ((frame m)[i] ^^^ d)) m' := fun m' => by
  have e1 : (frame m).set i ((frame m)[i] ^^^ d) = (frame m).take i ++ ((frame m)[i] ^^^ d) :: (frame m).drop (i + 1) := List.set_eq_take_append_cons_drop.trans (if_pos h)
  have e2 : frame m = (frame m).take i ++ (frame m)[i] :: (frame m).drop (i + 1) := by rw [← List.drop_eq_getElem_cons h, List.take_append_drop]
  rw [e1]
  refine slip_not e2 fun e => hd ?_
  have e3 : (frame m)[i] ^^^ ((frame m)[i] ^^^ d) = (frame m)[i] ^^^ (frame m)[i] := by rw [← e]
  rw [← UInt8.xor_assoc, UInt8.xor_self, UInt8.zero_xor] at e3
  exact e3

set_option maxHeartbeats 3200000 in
theorem CodecSlips_walk (m : Mg) (v : Value) (at_ d : Int) (w : World) (hv : MgV w v m) (nl : m.nums.length ≤ 1048576) (dl : m.data.length ≤ 1048576) (ha : (Lit.int .i64 at_).wf = true) (hd : (Lit.int .u8 d).wf = true) :
    Calls Try.prog 5 #[v, .int .i64 at_, .int .u8 d] w fun e w' => e = .returned (.bool true) ∧ Below w.heap.size w w' := by
  have hd2 : 0 ≤ d ∧ d ≤ 255 := by simpa [Lit.wf, IntKind.min, IntKind.max, IntKind.signed, IntKind.bits] using hd
  clear ha hd
  obtain ⟨y, rfl⟩ : ∃ y : UInt8, d = (y.toNat : Int) := ⟨UInt8.ofNat d.toNat, by rw [UInt8.toNat_ofNat']; omega⟩
  clear hd2
  obtain ⟨A, c, B, e0, rfl, lc, ld, -, -, hI, hK⟩ := id hv
  have HI := Lib.hid hI
  clear hI hK
  have hb0 : Below w.heap.size w (w.alloc (.cells #[.int .i64 m.kind, .slice A m.nums.length c, .slice B m.data.length e0] 25)) := (Below.refl _ w).alloc (Nat.le_refl _) _
  have hX : Blk (w.alloc (.cells #[.int .i64 m.kind, .slice A m.nums.length c, .slice B m.data.length e0] 25)) w.heap.size 25 [.int .i64 m.kind, .slice A m.nums.length c, .slice B m.data.length e0] := Blk.new w _ _
  go_enter Try.func5, Try.ntmps5
  go_wp2_with fail
  generalize w.alloc (.cells #[.int .i64 m.kind, .slice A m.nums.length c, .slice B m.data.length e0] 25) = wa at *
  refine (alive06_any wa).mono ?_
  rintro e w1 ⟨rfl, hb1'⟩
  have hb1 := hb0.trans (hb1'.mono hb0.size)
  have hX1 := hX.kept hb1'
  have hw1 := hv.below hb1
  clear hX hb1' hb0 hv
  obtain ⟨cX0, cX1, cX2⟩ := blk3 hX1
  by_cases hg : Good m
  · go_wp2_with fail
    refine (frame_good m _ w1 hw1 hg).mono ?_
    rintro e w2 ⟨u1, rfl, hown, hb2⟩
    have hb2' := hb1.trans (hb2.mono hb1.size)
    have hX2 := hX1.kept hb2
    have hdl : m.data.length ≤ 65536 := hg.2.2
    have hs1 := hb1.size
    clear hX1 hb2 hb1 hw1 cX0 cX1 cX2
    obtain ⟨cX0, cX1, cX2⟩ := blk3 hX2
    have hfl := frame_len m
    have hfr : Hid (IsFrame (frame m) m) := ⟨hg, HI.out, rfl⟩
    have hcut : Hid (∀ i, i < (frame m).length → ∀ m', ¬ IsFrame ((frame m).take i) m') := fun i hi m' => cut_not hg hi
    have hslip : Hid (∀ i (h : i < (frame m).length), y ≠ 0 → ∀ m', ¬ IsFrame ((frame m).set i ((frame m)[i] ^^^ y)) m') := fun i h hy => slip_set h hy
    have hn40 := hg.2.1
    have hlen : (frame m).length ≤ 70000 := by omega
    have hpos : 0 < (frame m).length := by omega
    clear hfl HI hg
    generalize frame m = fr at *
    obtain ⟨g, cap, rfl, hbg, hlt⟩ := hown.form hpos
    have hcap : fr.length ≤ cap := by obtain ⟨_, _, e, h, _⟩ := own_form hown; injection e with e1 e2 e3; omega
    obtain ⟨i, hi1, hi2⟩ : ∃ i : Nat, i < fr.length ∧ IntKind.i64.wrap ((IntKind.u64.wrap at_).tmod (fr.length : Int)) = (i : Int) := by
      obtain ⟨i, h1, h2⟩ := mod_index at_ fr.length hpos
      exact ⟨i, h1, by rw [h2]; exact IntWalk.i64_in _ (by omega)⟩
    have hR : RB w2 (some ⟨g, 0, none⟩) (fr.take i) := RB.take_ (RC.of_own hown) i
    have hql : (fr.take i).length = i := by rw [List.length_take]; omega
    have hcutq := hcut.out i hi1
    have hcall := parse_any (fr.take i) (some ⟨g, 0, none⟩) cap w2 hR (by omega) (by omega)
    rw [hql] at hcall
    have HCALL := Lib.hid hcall
    have HCUT := Lib.hid hcutq
    clear hcall hcutq hql hR hcut
    have hic : i ≤ cap := by omega
    go_wp2_with fail
    refine (large_any _ w2).mono ?_
    rintro e w2' ⟨rfl, rfl⟩
    rw [show decide ((131072 : Int) < (m.data.length : Int)) = false from decide_eq_false (by omega)]
    go_wp2_with fail
    refine HCALL.out.mono ?_
    rintro e w3 ⟨hp, hb3⟩
    have he := hp.2 HCUT.out
    subst he
    have hown3 := (own_below hown hb3).alloc (.cells #[.int .i64 0, .slice none 0 0, .slice none 0 0] 25)
    have hb3' := hb2'.trans (hb3.mono hb2'.size)
    have hs3 := hb3'.size
    have hb4 : Below w.heap.size w (w3.alloc (.cells #[.int .i64 0, .slice none 0 0, .slice none 0 0] 25)) := hb3'.alloc hs3 _
    clear hp HCALL HCUT hown hb3 hb2' hb3' hX2 cX0 cX1 cX2
    unfold mg0
    have cell := hown3.cellAt i (by omega)
    rw [List.getElem?_map, List.getElem?_eq_getElem hi1] at cell
    simp only [Option.map_some] at cell
    have frz := hown3.frozenAt i
    have hx := u8_xor fr[i] y
    have hb5 : Below w.heap.size w ((w3.alloc (.cells #[.int .i64 0, .slice none 0 0, .slice none 0 0] 25)).setCell ⟨g, i, none⟩ (.int .u8 ((fr[i] ^^^ y).toNat : Int))) := hb4.setCell (by show w.heap.size ≤ g; omega) _
    have hown5 := (hown3.stored i (.int .u8 ((fr[i] ^^^ y).toNat : Int))).1
    have hset : (fr.map bv).set i (.int .u8 ((fr[i] ^^^ y).toNat : Int)) = (fr.set i (fr[i] ^^^ y)).map bv := by show (fr.map bv).set i (bv _) = _; rw [List.map_set]
    rw [hset] at hown5
    have HS := Lib.hid (hslip.out i hi1)
    have HZ : Hid (y = 0 → fr.set i (fr[i] ^^^ y) = fr) := by
      rintro rfl
      rw [UInt8.xor_zero]
      exact List.set_getElem_self hi1
    have hql : (fr.set i (fr[i] ^^^ y)).length = fr.length := by rw [List.length_set]
    have hR5 : RB _ (some ⟨g, 0, none⟩) (fr.set i (fr[i] ^^^ y)) := RC.of_own hown5
    clear hset hslip hown3
    generalize fr.set i (fr[i] ^^^ y) = f2 at *
    generalize fr[i] ^^^ y = z at *
    generalize fr[i] = x at *
    have hcall := parse_any f2 (some ⟨g, 0, none⟩) cap _ hR5 (by omega) (by omega)
    rw [hql] at hcall
    have HCALL := Lib.hid hcall
    clear hcall hR5 hown5 hql
    go_wp2_with fail
    refine HCALL.out.mono ?_
    rintro e w6 ⟨hp, hb6⟩
    have hb6' := hb5.trans (hb6.mono hb5.size)
    by_cases h0 : y = 0
    · have hfz := HZ.out h0
      obtain ⟨v6, he, hv6⟩ := hp.1 m (by rw [hfz]; exact hfr.out)
      subst he
      subst h0
      clear HZ HS HCALL hp hfz
      obtain ⟨vn, vd, rfl, o1, o2⟩ := hv6
      obtain ⟨An, cn, rfl, -⟩ := own_form o1
      obtain ⟨Ad, cd, rfl, -⟩ := own_form o2
      have heq := er_eql 3 3 (w6.alloc (.cells #[.int .i64 m.kind, .slice An m.nums.length cn, .slice Ad m.data.length cd] 25))
      clear o1 o2
      go_wp2_with fail
      go_ret
      exact ⟨rfl, hb6'.alloc hb6'.size _⟩
    · have he := hp.2 (HS.out h0)
      subst he
      have t2 : ((y.toNat : Int) == 0) = false := by
        rw [beq_eq_false_iff_ne]
        intro e
        exact h0 (UInt8.toNat_inj.1 (by show y.toNat = 0; omega))
      clear HZ HS HCALL hp h0
      unfold mg0
      have heq := er_eql 3 3 (w6.alloc (.cells #[.int .i64 0, .slice none 0 0, .slice none 0 0] 25))
      go_wp2_with fail
      go_ret
      exact ⟨rfl, hb6'.alloc hb6'.size _⟩
  · go_wp2_with fail
    refine (frame_bad m _ w1 hw1 hg).mono ?_
    rintro e w2 ⟨rfl, hb2⟩
    go_wp2_with fail
    go_ret
    exact ⟨rfl, hb1.trans (hb2.mono hb1.size)⟩

theorem CodecSlipsX_walk {H : Type} {da : DataW H} (m : Mg) (v : Value) (at_ d : Int) (w : World) (o : MsgIs w v da m) (b : Rows.uptoBulk da ≤ 1048576) (ha : (Lit.int .i64 at_).wf = true) (hd : (Lit.int .u8 d).wf = true) :
    Calls Try.prog 5 #[v, .int .i64 at_, .int .u8 d] w fun e w' => e = .returned (.bool true) ∧ Below w.heap.size w w' := by
  obtain ⟨h1, h2, h3⟩ := o
  exact CodecSlips_walk m v at_ d w h1 (by omega) (by omega) ha hd
end Go.Proofs.Ytgmimindhhpkgaa
