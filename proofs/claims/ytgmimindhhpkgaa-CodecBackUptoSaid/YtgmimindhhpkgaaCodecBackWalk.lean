/- The walk of the law CodecBack. -/
import Derived.Test.YtgmimindhhpkgaaAlive06
import Derived.Test.YtgmimindhhpkgaaMsgOpen
import Derived.Test.YtgmimindhhpkgaaApart
import Derived.Lib.IfaceEq
namespace Go.Proofs.Ytgmimindhhpkgaa
set_option linter.unusedVariables false
set_option linter.unusedSimpArgs false
open Go.RowKit

theorem er_eqlB (a b : Int) (W : World) : (binOp .eql 30 (.iface 47 (.int .i64 a)) (.iface 47 (.int .i64 b))).run Try.prog W = .ok (.bool (a == b)) W :=
  Lib.run_eql_iface_int W a b (q := .i64) Try.underlying30 (by kernel_rfl) Try.underlying47

set_option maxHeartbeats 6400000 in
theorem CodecBack_walk (m : Mg) (v : Value) (b : List UInt8) (D : Option Addr) (dc : Nat) (w : World) (hv : MgV w v m) (nl : m.nums.length ≤ 1048576) (dl : m.data.length ≤ 1048576) (hD : RB w D b) (ldc : b.length ≤ dc) (lb : b.length ≤ 1048576) :
    Calls Try.prog 6 #[v, .slice D b.length dc] w fun e w' => e = .returned (.bool true) ∧ Below w.heap.size w w' := by
  obtain ⟨A, c, B, e0, rfl, lc, ld, -, -, hI, hK⟩ := id hv
  have HI := Lib.hid hI
  clear hI
  have hb0 : Below w.heap.size w (w.alloc (.cells #[.int .i64 m.kind, .slice A m.nums.length c, .slice B m.data.length e0] 25)) := (Below.refl _ w).alloc (Nat.le_refl _) _
  have hX : Blk (w.alloc (.cells #[.int .i64 m.kind, .slice A m.nums.length c, .slice B m.data.length e0] 25)) w.heap.size 25 [.int .i64 m.kind, .slice A m.nums.length c, .slice B m.data.length e0] := Blk.new w _ _
  go_enter Try.func6, Try.ntmps6
  go_wp2_with fail
  generalize w.alloc (.cells #[.int .i64 m.kind, .slice A m.nums.length c, .slice B m.data.length e0] 25) = wa at *
  refine (alive06_any wa).mono ?_
  rintro e w1 ⟨rfl, hb1'⟩
  have hb1 := hb0.trans (hb1'.mono hb0.size)
  have hX1 := hX.kept hb1'
  have hw1 := hv.below hb1
  clear hX hb1' hb0 hv
  obtain ⟨cX0, cX1, cX2⟩ := blk3 hX1
  go_wp2_with fail
  refine (large_any _ w1).mono ?_
  rintro e w1' ⟨rfl, rfl⟩
  by_cases hl1 : (131072 : Int) < (m.data.length : Int)
  · rw [show decide ((131072 : Int) < (m.data.length : Int)) = true from decide_eq_true hl1]
    go_wp2_with fail
    go_ret
    exact ⟨rfl, hb1⟩
  rw [show decide ((131072 : Int) < (m.data.length : Int)) = false from decide_eq_false hl1]
  clear hl1
  go_wp2_with fail
  refine (large_any _ w1').mono ?_
  rintro e w1 ⟨rfl, rfl⟩
  by_cases hl2 : (131072 : Int) < (b.length : Int)
  · rw [show decide ((131072 : Int) < (b.length : Int)) = true from decide_eq_true hl2]
    go_wp2_with fail
    go_ret
    exact ⟨rfl, hb1⟩
  rw [show decide ((131072 : Int) < (b.length : Int)) = false from decide_eq_false hl2]
  clear hl2
  have hs1 := hb1.size
  by_cases hg : Good m
  focus
    go_wp2_with fail
    (with_reducible refine (frame_good m _ w1 hw1 hg).mono ?_)
    rintro e w2 ⟨u1, rfl, hown1, hb2⟩
    have hb2' := below_call hb1 hb2
    have hX2 := hX1.kept hb2
    have hw2 := hw1.below hb2
    have hfl := frame_len m
    have hfr : Hid (IsFrame (frame m) m) := ⟨hg, HI.out, rfl⟩
    have hlen : (frame m).length ≤ 1200000 := by have := hg.2.1; have := hg.2.2; omega
    clear hX1 hw1 hb2 cX0 cX1 cX2 hfl hg
    generalize frame m = fr at *
    obtain ⟨X, cx, rfl, hcx, hRX, -⟩ := own_form hown1
    replace hRX : RB w2 X fr := hRX
    obtain ⟨cX0, cX1, cX2⟩ := blk3 hX2
    go_wp2_with fail
    (with_reducible refine (parse_any fr X cx w2 hRX hcx (by omega)).mono ?_)
    rintro e w3 ⟨⟨hp, -⟩, hb3⟩
    obtain ⟨v3, rfl, vn3, vd3, rfl, hn3, hd3⟩ := hp m hfr.out
    clear hp
    have hv3 : MgV w3 _ m := MgO.arg ⟨_, _, rfl, hn3, hd3⟩ HI.out hK
    obtain ⟨An3, cn3, rfl, -, -, -⟩ := own_form hn3
    obtain ⟨Ad3, cd3, rfl, -, -, -⟩ := own_form hd3
    have hq0 := own_apt hown1 hd3 (Nat.le_refl _)
    have hal : Below w3.heap.size w3 (w3.alloc (.cells #[.int .i64 m.kind, .slice An3 m.nums.length cn3, .slice Ad3 m.data.length cd3] 25)) := (Below.refl _ w3).alloc (Nat.le_refl _) _
    have hZ4 : Blk (w3.alloc (.cells #[.int .i64 m.kind, .slice An3 m.nums.length cn3, .slice Ad3 m.data.length cd3] 25)) w3.heap.size 25 [.int .i64 m.kind, .slice An3 m.nums.length cn3, .slice Ad3 m.data.length cd3] := Blk.new w3 _ _
    go_upto_region 8 with fail
    generalize w3.alloc (.cells #[.int .i64 m.kind, .slice An3 m.nums.length cn3, .slice Ad3 m.data.length cd3] 25) = w4 at *
    have hal2 := below_call hb3 hal
    have hb4' := below_call hb2' hal2
    have hs2 := hb2'.size
    have hs4 := hb4'.size
    have hX4 := hX2.kept hal2
    have hw4 := hw2.below hal2
    have hd4 := own_below hd3 hal
    have ho4 := own_below hown1 hal2
    have hs23 := hb3.size
    have hRX4 := RB.below hRX hal2
    have hv4 := hv3.below hal
    have hs34 := hal.size
    have hg3 := hZ4.lt
    generalize w3.heap.size = g3 at *
    clear hX2 hw2 hal hal2 hd3 hn3 hv3 hb3 hb2' cX0 cX1 cX2 hRX
    obtain ⟨cX0, cX1, cX2⟩ := blk3 hX4
    go_wp2_with fail
    (with_reducible refine (parse_any fr X cx w4 hRX4 hcx (by omega)).mono ?_)
    rintro e w5 ⟨⟨hp, -⟩, hb5⟩
    obtain ⟨v5, rfl, vn5, vd5, rfl, hn5, hd5⟩ := hp m hfr.out
    clear hp hfr
    obtain ⟨An5, cn5, rfl, -, -, -⟩ := own_form hn5
    obtain ⟨Ad5, cd5, rfl, -, -, -⟩ := own_form hd5
    have hal : Below w5.heap.size w5 (w5.alloc (.cells #[.int .i64 m.kind, .slice An5 m.nums.length cn5, .slice Ad5 m.data.length cd5] 25)) := (Below.refl _ w5).alloc (Nat.le_refl _) _
    have hY6 : Blk (w5.alloc (.cells #[.int .i64 m.kind, .slice An5 m.nums.length cn5, .slice Ad5 m.data.length cd5] 25)) w5.heap.size 25 [.int .i64 m.kind, .slice An5 m.nums.length cn5, .slice Ad5 m.data.length cd5] := Blk.new w5 _ _
    go_upto_region 9 with fail
    generalize w5.alloc (.cells #[.int .i64 m.kind, .slice An5 m.nums.length cn5, .slice Ad5 m.data.length cd5] 25) = w6 at *
    have hal2 := below_call hb5 hal
    have hb6' := below_call hb4' hal2
    have hX6 := hX4.kept hal2
    have hZ6 := hZ4.kept hal2
    have hw6 := hw4.below hal2
    have hv6 := hv4.below hal2
    have hd6 := own_below hd5 hal
    have hd64 := own_below hd4 hal2
    have ho6 := own_below ho4 hal2
    have hq1 := own_apt ho4 hd5 (Nat.le_refl _)
    have hq2 := own_apt hd4 hd5 (Nat.le_refl _)
    generalize w5.heap.size = g5 at *
    clear hX4 hw4 hal hal2 hd5 hn5 hb5 hb4' cX0 cX1 cX2 hRX4 hv4 hZ4
    obtain ⟨cX0, cX1, cX2⟩ := blk3 hX6
    obtain ⟨cZ0, cZ1, cZ2⟩ := blk3 hZ6
    obtain ⟨cY0, cY1, cY2⟩ := blk3 hY6
    have hsm := (same_iff m m).2 rfl
    go_wp2_with fail
    (with_reducible refine (same_any m m _ _ w6 hv6 hw6 (by omega)).mono ?_)
    rintro e w7 ⟨rfl, hb7⟩
    rw [hsm]
    clear hsm
    have hb7' := below_call hb6' hb7
    have hZ7 := hZ6.kept hb7
    have hY7 := hY6.kept hb7
    have hd7 := own_below hd6 hb7
    have hd74 := own_below hd64 hb7
    have ho7 := own_below ho6 hb7
    have hs7 := hb7'.size
    clear hX6 hZ6 hw6 hv6 hd6 hd64 ho6 hY6 hb7 hb6' cX0 cX1 cX2 cZ0 cZ1 cZ2 cY0 cY1 cY2
    obtain ⟨cZ0, cZ1, cZ2⟩ := blk3 hZ7
    obtain ⟨cY0, cY1, cY2⟩ := blk3 hY7
    go_wp2_with fail
    (with_reducible refine (apart3 w.heap.size _ _ _ m.data.length m.data.length fr.length _ _ _ 23 w7 (by omega) (by omega) (by omega) hs7 (own_weaken hd74 (by omega)) (own_weaken hd7 (by omega)) (own_weaken ho7 hs1) hq2 (fun b e e2 => absurd e (hq0 b e2)) (fun b e e2 => absurd e (hq1 b e2)) rfl).mono ?_)
    rintro e w8 ⟨rfl, hb8⟩
    have hb8' := (hb7'.alloc hs7 _).trans hb8
    clear hb8 hb7' hZ7 hY7 hd7 hd74 ho7 cZ0 cZ1 cZ2 cY0 cY1 cY2
    go_upto_region 11 with fail
    clear HI hb1
  rotate_left
  focus
    go_wp2_with fail
    (with_reducible refine (frame_bad m _ w1 hw1 hg).mono ?_)
    rintro e w8 ⟨rfl, hb2⟩
    have hb8' := below_call hb1 hb2
    go_upto_region 11 with fail
    clear hX1 hw1 hb2 cX0 cX1 cX2 hg HI hb1
  all_goals
    have hD8 := RB.below hD hb8'
    go_wp2_with fail
    by_cases hf : ∃ m', IsFrame b m'
    · obtain ⟨m', hm'⟩ := hf
      (with_reducible refine (parse_any b D dc w8 hD8 ldc (by omega)).mono ?_)
      rintro e w9 ⟨⟨hp, -⟩, hb9⟩
      obtain ⟨v9, rfl, vn9, vd9, rfl, hn9, hd9⟩ := hp m' hm'
      clear hp
      have hb9' := below_call hb8' hb9
      have hD9 := hD8.below hb9
      have hv9 : MgV w9 _ m' := MgO.arg ⟨_, _, rfl, hn9, hd9⟩ hm'.2.1 (isframe_I64 hm')
      obtain ⟨An9, cn9, rfl, -, -, -⟩ := own_form hn9
      obtain ⟨Ad9, cd9, rfl, -, -, -⟩ := own_form hd9
      have hal : Below w9.heap.size w9 (w9.alloc (.cells #[.int .i64 m'.kind, .slice An9 m'.nums.length cn9, .slice Ad9 m'.data.length cd9] 25)) := (Below.refl _ w9).alloc (Nat.le_refl _) _
      have hZ : Blk (w9.alloc (.cells #[.int .i64 m'.kind, .slice An9 m'.nums.length cn9, .slice Ad9 m'.data.length cd9] 25)) w9.heap.size 25 [.int .i64 m'.kind, .slice An9 m'.nums.length cn9, .slice Ad9 m'.data.length cd9] := Blk.new w9 _ _
      have hv10 := hv9.below hal
      have hD10 := hD9.below hal
      have hb10 := below_call hb9' hal
      have HG := Lib.hid hm'.1
      have HM := Lib.hid hm'.2.2
      clear hv9 hD9 hn9 hd9 hb9 hD8 hb8' hm' hb9'
      go_upto_region 12 with fail
      generalize w9.alloc (.cells #[.int .i64 m'.kind, .slice An9 m'.nums.length cn9, .slice Ad9 m'.data.length cd9] 25) = w10 at *
      generalize w9.heap.size = g9 at *
      obtain ⟨cZ0, cZ1, cZ2⟩ := blk3 hZ
      go_wp2_with fail
      (with_reducible refine (frame_good m' _ w10 hv10 HG.out).mono ?_)
      rintro e w11 ⟨u, rfl, hou, hb11⟩
      rw [HM.out] at hou
      obtain ⟨Y, cy, rfl, -, hRY, -⟩ := own_form hou
      have s1 := run_str (P := Try.prog) w11 _ _ _ Try.underlying23 Try.underlying5 Try.underlying9 _ _ cy _ hRY rfl
      have s2 := run_str (P := Try.prog) w11 _ _ _ Try.underlying23 Try.underlying5 Try.underlying9 _ _ dc _ (hD10.below hb11) rfl
      have hcm : ((bs b).toList == (bs b).toList) = true := by simp
      generalize bs b = q at *
      go_wp2_with fail
      go_ret
      exact ⟨rfl, below_call hb10 hb11⟩
    · (with_reducible refine (parse_any b D dc w8 hD8 ldc (by omega)).mono ?_)
      rintro e w9 ⟨⟨-, hp⟩, hb9⟩
      have he := hp (fun m' hm' => hf ⟨m', hm'⟩)
      subst he
      clear hp hf
      have hb9' := below_call hb8' hb9
      have hb10 := below_al hb9' (.cells #[.int .i64 0, .slice none 0 0, .slice none 0 0] 25)
      have hZ : Blk (w9.alloc (.cells #[.int .i64 0, .slice none 0 0, .slice none 0 0] 25)) w9.heap.size 25 [.int .i64 0, .slice none 0 0, .slice none 0 0] := Blk.new w9 _ _
      clear hb9 hD8 hb8' hb9'
      unfold mg0
      go_upto_region 12 with fail
      generalize w9.alloc (.cells #[.int .i64 0, .slice none 0 0, .slice none 0 0] 25) = w10 at *
      generalize w9.heap.size = g9 at *
      obtain ⟨cZ0, cZ1, cZ2⟩ := blk3 hZ
      have heq := er_eqlB 3 3 w10
      have hsm := (same_iff (⟨0, [], []⟩ : Mg) ⟨0, [], []⟩).2 rfl
      go_wp2_with fail
      have hz0 := mg0_arg w10
      unfold mg0 at hz0
      (with_reducible refine (same_any ⟨0, [], []⟩ ⟨0, [], []⟩ _ _ w10 hz0 hz0 (Nat.zero_le _)).mono ?_)
      rintro e w11 ⟨rfl, hb11⟩
      rw [hsm]
      clear hsm
      go_wp2_with fail
      go_ret
      exact ⟨rfl, below_call hb10 hb11⟩

theorem CodecBackX_walk {H : Type} {da : DataW H} (m : Mg) (v : Value) (b : List UInt8) (D : Option Addr) (dc : Nat) (w : World) (o : MsgIs w v da m) (b0 : Rows.uptoBulk da ≤ 1048576) (ldc : b.length ≤ dc) (hD : RB w D b) (lb : b.length ≤ 1048576) :
    Calls Try.prog 6 #[v, .slice D b.length dc] w fun e w' => e = .returned (.bool true) ∧ Below w.heap.size w w' := by
  obtain ⟨h1, h2, h3⟩ := o
  exact CodecBack_walk m v b D dc w h1 (by omega) (by omega) hD ldc lb
end Go.Proofs.Ytgmimindhhpkgaa
