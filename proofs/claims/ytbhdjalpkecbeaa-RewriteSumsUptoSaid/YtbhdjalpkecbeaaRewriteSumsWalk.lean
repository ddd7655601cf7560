/- The walk of RewriteSums. -/
import Derived.Test.YtbhdjalpkecbeaaRwOpen
import Derived.Test.YtbhdjalpkecbeaaRwSumW
import Derived.Test.YtbhdjalpkecbeaaInv
import Derived.Deep.CutBlock
import Derived.Deep.DeepCutAuto
namespace Go.Proofs.Ytbhdjalpkecbeaa
set_option linter.unusedVariables false
set_option linter.unusedSimpArgs false
open Go.RowKit

theorem bel_dn0 (w : World) (n : Nat) : Below w.heap.size w (w.drewN n) := ⟨rfl, rfl, rfl, Nat.le_refl _, fun _ _ => rfl⟩
/-- The three pairs stand. -/
def Ar3 (wa wx : World) (v6 v7 v8 : Value) (m1 m2 m3 x1 x2 q : Nat) : Prop := ∃ g6 g7 g8 : Nat, v6 = .pointer (some ⟨g6, 0, none⟩) ∧ v7 = .pointer (some ⟨g7, 0, none⟩) ∧ v8 = .pointer (some ⟨g8, 0, none⟩) ∧ Blk wx g6 37 [.int .u16 (m1 : Int), .int .u16 (x1 : Int)] ∧ Blk wx g7 37 [.int .u16 (m2 : Int), .int .u16 (x2 : Int)] ∧ Blk wx g8 37 [.int .u16 (m3 : Int), .int .u16 (q : Int)] ∧ Below wa.heap.size wa wx
def HG (ad : Addr) (n c gx a q m1 m2 m3 x1 x2 : Nat) (wa : World) (f : Nat → Bool) (w : World) (x40 x41 x42 x43 x44 x45 x46 x47 x48 x49 x50 x51 x52 x53 x54 x55 x56 x57 x58 x6 x7 x8 : Value) (g6 g7 g8 : Nat) : Prop :=
  Below wa.heap.size wa w ∧ (f 0 = true → x40 = .slice (some ad) n c) ∧ (f 1 = true → x41 = .int .u16 (m1 : Int)) ∧ (f 2 = true → x42 = .pointer (some ⟨gx, 1, none⟩)) ∧ (f 3 = true → x43 = .int .u32 (a : Int)) ∧ (f 4 = true → x44 = .int .u32 (x1 : Int)) ∧ (f 5 = true → x45 = .int .u16 (x1 : Int)) ∧ (f 6 = true → x46 = .agg #[.int .u16 (m1 : Int), .int .u16 (x1 : Int)]) ∧ (f 7 = true → x47 = .slice (some ad) n c) ∧ (f 8 = true → x48 = .int .u16 (m2 : Int)) ∧ (f 9 = true → x49 = .pointer (some ⟨gx, 1, none⟩)) ∧ (f 10 = true → x50 = .int .u32 (a : Int)) ∧ (f 11 = true → x51 = .int .u16 (x2 : Int)) ∧ (f 12 = true → x52 = .agg #[.int .u16 (m2 : Int), .int .u16 (x2 : Int)]) ∧ (f 13 = true → x53 = .slice (some ad) n c) ∧ (f 14 = true → x54 = .int .u16 (m3 : Int)) ∧ (f 15 = true → x55 = .pointer (some ⟨gx, 2, none⟩)) ∧ (f 16 = true → x56 = .int .i64 (q : Int)) ∧ (f 17 = true → x57 = .int .u16 (q : Int)) ∧ (f 18 = true → x58 = .agg #[.int .u16 (m3 : Int), .int .u16 (q : Int)]) ∧ (f 19 = true → x6 = .pointer (some ⟨g6, 0, none⟩) ∧ wa.heap.size ≤ g6 ∧ Blk w g6 37 (if f 22 = true then [.int .u16 (m1 : Int), .int .u16 (x1 : Int)] else [.int .u16 0, .int .u16 0])) ∧ (f 20 = true → x7 = .pointer (some ⟨g7, 0, none⟩) ∧ wa.heap.size ≤ g7 ∧ Blk w g7 37 (if f 23 = true then [.int .u16 (m2 : Int), .int .u16 (x2 : Int)] else [.int .u16 0, .int .u16 0])) ∧ (f 21 = true → x8 = .pointer (some ⟨g8, 0, none⟩) ∧ wa.heap.size ≤ g8 ∧ Blk w g8 37 (if f 24 = true then [.int .u16 (m3 : Int), .int .u16 (q : Int)] else [.int .u16 0, .int .u16 0])) ∧ (f 19 = true → f 20 = true → g6 ≠ g7) ∧ (f 19 = true → f 21 = true → g6 ≠ g8) ∧ (f 20 = true → f 21 = true → g7 ≠ g8) ∧ (f 22 = true → f 19 = true) ∧ (f 23 = true → f 20 = true) ∧ (f 24 = true → f 21 = true)
def HJ (ad : Addr) (n c ip0 ip m1 m2 x1 x2 : Nat) (wa : World) (f : Nat → Bool) (w : World) (x63 x64 x65 x66 x67 x68 x10 : Value) (g67 : Nat) : Prop :=
  Below wa.heap.size wa w ∧ (f 0 = true → x63 = .slice (some ad) n c) ∧ (f 1 = true → x64 = .int .u16 (ip0 : Int)) ∧ (f 2 = true → x65 = .agg #[.int .u16 (m1 : Int), .int .u16 (x1 : Int)]) ∧ (f 3 = true → x66 = .agg #[.int .u16 (m2 : Int), .int .u16 (x2 : Int)]) ∧ (f 4 = true → x67 = .slice (some ⟨g67, 0, none⟩) 2 2 ∧ wa.heap.size ≤ g67 ∧ Blk w g67 37 [.int .u16 (m1 : Int), .int .u16 (x1 : Int), .int .u16 (m2 : Int), .int .u16 (x2 : Int)]) ∧ (f 5 = true → x68 = .int .u16 (ip : Int)) ∧ (f 6 = true → x10 = .int .u16 (ip : Int))
def HK_ (ad : Addr) (n c ow0 ow m1 m2 m3 x1 x2 q : Nat) (at_ : Int) (wa : World) (f : Nat → Bool) (w : World) (x69 x70 x71 x72 x73 x74 x75 x76 x11 : Value) (g75 : Nat) : Prop :=
  Below wa.heap.size wa w ∧ (f 0 = true → x69 = .slice (some ad) n c) ∧ (f 1 = true → x70 = .int .i64 at_) ∧ (f 2 = true → x71 = .int .u16 (ow0 : Int)) ∧ (f 3 = true → x72 = .agg #[.int .u16 (m1 : Int), .int .u16 (x1 : Int)]) ∧ (f 4 = true → x73 = .agg #[.int .u16 (m2 : Int), .int .u16 (x2 : Int)]) ∧ (f 5 = true → x74 = .agg #[.int .u16 (m3 : Int), .int .u16 (q : Int)]) ∧ (f 6 = true → x75 = .slice (some ⟨g75, 0, none⟩) 3 3 ∧ wa.heap.size ≤ g75 ∧ Blk w g75 37 [.int .u16 (m1 : Int), .int .u16 (x1 : Int), .int .u16 (m2 : Int), .int .u16 (x2 : Int), .int .u16 (m3 : Int), .int .u16 (q : Int)]) ∧ (f 7 = true → x76 = .int .u16 (ow : Int)) ∧ (f 8 = true → x11 = .int .u16 (ow : Int))
set_option maxRecDepth 100000 in
set_option maxHeartbeats 16000000 in
theorem RewriteSums_walk (l : List UInt8) (B : Option Addr) (c : Nat) (xa xp : Int) (f : Fl) (w : World) (hc : l.length ≤ c) (hB : RB w B l) (hxa : 0 ≤ xa ∧ xa ≤ 4294967295) :
    Calls Try.prog 3 #[.agg #[.slice B l.length c, .int .u32 xa, .int .i64 xp, .int .i64 f.proto, .int .u32 f.src, .int .i64 f.sp, .int .u32 f.dst, .int .i64 f.dp]] w fun e w' => e = .returned (.bool true) ∧ Below w.heap.size w w' := by
  have hb0 : Below w.heap.size w (w.alloc (.cells #[.slice B l.length c, .int .u32 xa, .int .i64 xp, .int .i64 f.proto, .int .u32 f.src, .int .i64 f.sp, .int .u32 f.dst, .int .i64 f.dp] 28)) := (Below.refl _ w).alloc (Nat.le_refl _) _
  have hX : Blk (w.alloc (.cells #[.slice B l.length c, .int .u32 xa, .int .i64 xp, .int .i64 f.proto, .int .u32 f.src, .int .i64 f.sp, .int .u32 f.dst, .int .i64 f.dp] 28)) w.heap.size 28 [.slice B l.length c, .int .u32 xa, .int .i64 xp, .int .i64 f.proto, .int .u32 f.src, .int .i64 f.sp, .int .u32 f.dst, .int .i64 f.dp] := Blk.new w _ _
  go_enter Try.func3, Try.ntmps3
  go_wp2_with fail
  generalize w.alloc (.cells #[.slice B l.length c, .int .u32 xa, .int .i64 xp, .int .i64 f.proto, .int .u32 f.src, .int .i64 f.sp, .int .u32 f.dst, .int .i64 f.dp] 28) = wb at *
  (with_reducible refine (alive_any wb).mono ?_)
  rintro e w1 ⟨rfl, hb1⟩
  have hw1 := below_call hb0 hb1
  have hX1 := hX.kept hb1
  clear hX hb0 hb1
  obtain ⟨n, hn⟩ : ∃ n, n = l.length := ⟨_, rfl⟩
  have HN := Lib.hid hn.symm
  rw [← hn] at hX1 hc ⊢
  clear hn
  obtain ⟨c0, c1, c2, c3, c4, c5, c6, c7⟩ := blk8 hX1
  have HXA := Lib.hid hxa
  by_cases hp : IsPk l (opn l)
  rotate_left
  · have HNO := Lib.hid (fun q (hq : IsPk l q) => hp (isPk_any hq))
    clear hp
    go_wp2_with fail
    (with_reducible refine (dest_no l B n c xa xp w1 HN.out (hB.below hw1) hc HNO.out).mono ?_)
    rintro e w2 ⟨rfl, hb2⟩
    have hw2 := below_call hw1 hb2
    clear c0 c1 c2 c3 c4 c5 c6 c7
    go_wp2_with fail
    go_ret
    exact ⟨rfl, hw2⟩
  have HP := Lib.hid hp
  clear hp
  generalize opn l = p at *
  by_cases hpt : xp < 0 ∨ 65535 < xp
  · have HPT := Lib.hid hpt
    clear hpt
    go_wp2_with fail
    (with_reducible refine (dest_port l p B n c xa xp w1 HN.out (hB.below hw1) hc HP.out HPT.out).mono ?_)
    rintro e w2 ⟨rfl, hb2⟩
    have hw2 := below_call hw1 hb2
    clear c0 c1 c2 c3 c4 c5 c6 c7
    go_wp2_with fail
    go_ret
    exact ⟨rfl, hw2⟩
  obtain ⟨a, rfl⟩ := Int.eq_ofNat_of_zero_le hxa.1
  obtain ⟨q, rfl⟩ := Int.eq_ofNat_of_zero_le (show 0 ≤ xp by omega)
  have ha : a ≤ 4294967295 := by omega
  have hq : q ≤ 65535 := by omega
  have HPT : Hid (0 ≤ (q : Int) ∧ (q : Int) ≤ 65535) := by show _ ∧ _; omega
  clear hpt hxa
  go_wp2_with fail
  (with_reducible refine (dest_n l p B n c (a : Int) (q : Int) w1 HN.out (hB.below hw1) hc HP.out HXA.out HPT.out).mono ?_)
  rintro e wa ⟨X2, k2, rfl, hk2, hR2, -, hb2⟩
  have hbwa := below_call hw1 hb2
  have hX2 := hX1.kept hb2
  have HL1 : Hid ((build (setDst p a q)).length = n) := by show _ = _; rw [set_len_dst, HP.out.2.2, HN.out]
  have hn28 : 28 ≤ n := by rw [← HN.out]; exact (isPk_shape HP.out).1
  have hn15 : n ≤ 1500 := by rw [← HN.out]; exact (isPk_shape HP.out).2.1
  have HDW := Lib.hid (dst_words p HP.out.1 HP.out.2.1 a q ha hq)
  rw [HP.out.2.2] at HDW
  clear hX1 hb2 c0 c1 c2 c3 c4 c5 c6 c7
  generalize hWB : build (setDst p a q) = wq at *
  clear hWB
  obtain ⟨m1, HM1⟩ : ∃ x, Hid (b2 l 16 = x) := ⟨_, rfl⟩
  obtain ⟨m2, HM2⟩ : ∃ x, Hid (b2 l 18 = x) := ⟨_, rfl⟩
  obtain ⟨m3, HM3⟩ : ∃ x, Hid (b2 l 22 = x) := ⟨_, rfl⟩
  obtain ⟨x1, hx1⟩ : ∃ x, a / 65536 = x := ⟨_, rfl⟩
  obtain ⟨x2, hx2⟩ : ∃ x, a % 65536 = x := ⟨_, rfl⟩
  have f1 : (a : Int) / 65536 = (x1 : Int) := by omega
  have f2 : IntKind.u16.wrap (x1 : Int) = (x1 : Int) := IntWalk.u16_in _ (by omega)
  have f3 : IntKind.u16.wrap (a : Int) = (x2 : Int) := by simp [IntKind.wrap, IntKind.bits, IntKind.signed]; omega
  have f4 : IntKind.u16.wrap (q : Int) = (q : Int) := IntWalk.u16_in _ (by omega)
  have f5 : (a : Int) % 65536 = (x2 : Int) := by omega
  have HX1 := Lib.hid hx1
  have HX2' := Lib.hid hx2
  clear hx1 hx2
  have hRl := hB.below hbwa
  obtain ⟨ad, rfl, h9⟩ := hRl.at_ 9 (by rw [HN.out]; omega)
  rw [add_pos' ad 9 (by omega)] at h9
  have HRL := Lib.hid hRl
  have HB9 := Lib.hid (show b1 l 9 = (l[9]'(by rw [HN.out]; omega)).toNat by unfold b1; simp [List.getD, List.getElem?_eq_getElem (show 9 < l.length by rw [HN.out]; omega)])
  generalize (l[9]'(by rw [HN.out]; omega)).toNat = by9 at *
  have HPB := Lib.hid (isPk_9 HP.out)
  have HSH := Lib.hid (isPk_shape HP.out).2.2.1
  clear hRl
  go_upto_region 9 with (fail)
  go_cut [6, 7, 8] (fun v6 v7 v8 wx => Hid (Ar3 wa wx v6 v7 v8 m1 m2 m3 x1 x2 q))
  case first =>
    refine wp_region_inv_at (fun a0 d_ a' w' => ∃ (x40 x41 x42 x43 x44 x45 x46 x47 x48 x49 x50 x51 x52 x53 x54 x55 x56 x57 x58 x6 x7 x8 : Value) (g6 g7 g8 : Nat), a' = ((((((((((((((((((((((a0.put (some 40) x40).put (some 41) x41).put (some 42) x42).put (some 43) x43).put (some 44) x44).put (some 45) x45).put (some 46) x46).put (some 47) x47).put (some 48) x48).put (some 49) x49).put (some 50) x50).put (some 51) x51).put (some 52) x52).put (some 53) x53).put (some 54) x54).put (some 55) x55).put (some 56) x56).put (some 57) x57).put (some 58) x58).put (some 6) x6).put (some 7) x7).put (some 8) x8) ∧ HG ad n c w.heap.size a q m1 m2 m3 x1 x2 wa d_ w' x40 x41 x42 x43 x44 x45 x46 x47 x48 x49 x50 x51 x52 x53 x54 x55 x56 x57 x58 x6 x7 x8 g6 g7 g8) (by kernel_rfl) (by kernel_rfl) ?_ ?_ ?_
    case refine_1 =>
      exact ⟨undef, undef, undef, undef, undef, undef, undef, undef, undef, undef, undef, undef, undef, undef, undef, undef, undef, undef, undef, undef, undef, undef, 0, 0, 0, (by simp only [Act.put, List.setIfInBounds_toArray, List.set_cons_zero, List.set_cons_succ]), Below.drew (Below.refl _ wa), by simp, by simp, by simp, by simp, by simp, by simp, by simp, by simp, by simp, by simp, by simp, by simp, by simp, by simp, by simp, by simp, by simp, by simp, by simp, by simp, by simp, by simp, by simp, by simp, by simp, by simp, by simp, by simp⟩
    case refine_2 =>
      simp only [StepsInv]
      refine ⟨?_, ?_, ?_, ?_, ?_, ?_, ?_, ?_, ?_, ?_, ?_, ?_, ?_, ?_, ?_, ?_, ?_, ?_, ?_, ?_, ?_, ?_, ?_, ?_, ?_, trivial⟩
      · intro f a' w' hf hpre hJ K hK
        simp only [Nat.reduceAdd] at hf hK
        have HK := Lib.hid hK
        clear hK
        clear hpre
        obtain ⟨x40, x41, x42, x43, x44, x45, x46, x47, x48, x49, x50, x51, x52, x53, x54, x55, x56, x57, x58, x6, x7, x8, g6, g7, g8, hx, cB, c0, c1, c2, c3, c4, c5, c6, c7, c8, c9, c10, c11, c12, c13, c14, c15, c16, c17, c18, c19, c20, c21, d19_20, d19_21, d20_21, s22, s23, s24⟩ := hJ
        subst hx
        go_simp
        refine HK.out _ _ (fun f' h1 h2 => ⟨(.slice (some ad) n c), x41, x42, x43, x44, x45, x46, x47, x48, x49, x50, x51, x52, x53, x54, x55, x56, x57, x58, x6, x7, x8, g6, g7, g8, (by simp only [Act.put, List.setIfInBounds_toArray, List.set_cons_zero, List.set_cons_succ]), ?_⟩)
        have e1 := h2 1 (by decide)
        have e2 := h2 2 (by decide)
        have e3 := h2 3 (by decide)
        have e4 := h2 4 (by decide)
        have e5 := h2 5 (by decide)
        have e6 := h2 6 (by decide)
        have e7 := h2 7 (by decide)
        have e8 := h2 8 (by decide)
        have e9 := h2 9 (by decide)
        have e10 := h2 10 (by decide)
        have e11 := h2 11 (by decide)
        have e12 := h2 12 (by decide)
        have e13 := h2 13 (by decide)
        have e14 := h2 14 (by decide)
        have e15 := h2 15 (by decide)
        have e16 := h2 16 (by decide)
        have e17 := h2 17 (by decide)
        have e18 := h2 18 (by decide)
        have e19 := h2 19 (by decide)
        have e20 := h2 20 (by decide)
        have e21 := h2 21 (by decide)
        have e22 := h2 22 (by decide)
        have e23 := h2 23 (by decide)
        have e24 := h2 24 (by decide)
        simp only [HG, h1, e1, e2, e3, e4, e5, e6, e7, e8, e9, e10, e11, e12, e13, e14, e15, e16, e17, e18, e19, e20, e21, e22, e23, e24]
        exact ⟨cB, fun _ => (by first | rfl | trivial), c1, c2, c3, c4, c5, c6, c7, c8, c9, c10, c11, c12, c13, c14, c15, c16, c17, c18, c19, c20, c21, d19_20, d19_21, d20_21, s22, s23, s24⟩
      · intro f a' w' hf hpre hJ K hK
        simp only [Nat.reduceAdd] at hf hK
        have HK := Lib.hid hK
        clear hK
        simp [Region.binds] at hpre
        have hp0 : f 0 = true := (by first | exact hpre | exact hpre.1 | exact hpre.2.1 | exact hpre.2.2.1 | exact hpre.2 | exact hpre.2.2 | exact hpre.2.2.2.1)
        clear hpre
        obtain ⟨x40, x41, x42, x43, x44, x45, x46, x47, x48, x49, x50, x51, x52, x53, x54, x55, x56, x57, x58, x6, x7, x8, g6, g7, g8, hx, cB, c0, c1, c2, c3, c4, c5, c6, c7, c8, c9, c10, c11, c12, c13, c14, c15, c16, c17, c18, c19, c20, c21, d19_20, d19_21, d20_21, s22, s23, s24⟩ := hJ
        subst hx
        have ee := c0 hp0
        subst ee
        clear hp0
        have hRB := HRL.out.below cB
        go_simp
        (with_reducible refine (lword_any l (some ad) n c 16 16 m1 _ hRB HN.out (by omega) (by omega) rfl HM1.out).mono ?_); rintro e w9 ⟨rfl, k9, rfl⟩; dsimp only; have hb9 := bel_dn0 w' k9
        refine HK.out _ _ (fun f' h1 h2 => ⟨(.slice (some ad) n c), (.int .u16 (m1 : Int)), x42, x43, x44, x45, x46, x47, x48, x49, x50, x51, x52, x53, x54, x55, x56, x57, x58, x6, x7, x8, g6, g7, g8, (by simp only [Act.put, List.setIfInBounds_toArray, List.set_cons_zero, List.set_cons_succ]), ?_⟩)
        have e0 := h2 0 (by decide)
        have e2 := h2 2 (by decide)
        have e3 := h2 3 (by decide)
        have e4 := h2 4 (by decide)
        have e5 := h2 5 (by decide)
        have e6 := h2 6 (by decide)
        have e7 := h2 7 (by decide)
        have e8 := h2 8 (by decide)
        have e9 := h2 9 (by decide)
        have e10 := h2 10 (by decide)
        have e11 := h2 11 (by decide)
        have e12 := h2 12 (by decide)
        have e13 := h2 13 (by decide)
        have e14 := h2 14 (by decide)
        have e15 := h2 15 (by decide)
        have e16 := h2 16 (by decide)
        have e17 := h2 17 (by decide)
        have e18 := h2 18 (by decide)
        have e19 := h2 19 (by decide)
        have e20 := h2 20 (by decide)
        have e21 := h2 21 (by decide)
        have e22 := h2 22 (by decide)
        have e23 := h2 23 (by decide)
        have e24 := h2 24 (by decide)
        simp only [HG, h1, e0, e2, e3, e4, e5, e6, e7, e8, e9, e10, e11, e12, e13, e14, e15, e16, e17, e18, e19, e20, e21, e22, e23, e24]
        exact ⟨below_call cB hb9, fun _ => (by first | rfl | trivial), fun _ => (by first | rfl | trivial), c2, c3, c4, c5, c6, c7, c8, c9, c10, c11, c12, c13, c14, c15, c16, c17, c18, fun h => ⟨(c19 h).1, (c19 h).2.1, (c19 h).2.2.kept hb9⟩, fun h => ⟨(c20 h).1, (c20 h).2.1, (c20 h).2.2.kept hb9⟩, fun h => ⟨(c21 h).1, (c21 h).2.1, (c21 h).2.2.kept hb9⟩, d19_20, d19_21, d20_21, s22, s23, s24⟩
      · intro f a' w' hf hpre hJ K hK
        simp only [Nat.reduceAdd] at hf hK
        have HK := Lib.hid hK
        clear hK
        clear hpre
        obtain ⟨x40, x41, x42, x43, x44, x45, x46, x47, x48, x49, x50, x51, x52, x53, x54, x55, x56, x57, x58, x6, x7, x8, g6, g7, g8, hx, cB, c0, c1, c2, c3, c4, c5, c6, c7, c8, c9, c10, c11, c12, c13, c14, c15, c16, c17, c18, c19, c20, c21, d19_20, d19_21, d20_21, s22, s23, s24⟩ := hJ
        subst hx
        go_simp
        refine HK.out _ _ (fun f' h1 h2 => ⟨x40, x41, (.pointer (some ⟨w.heap.size, 1, none⟩)), x43, x44, x45, x46, x47, x48, x49, x50, x51, x52, x53, x54, x55, x56, x57, x58, x6, x7, x8, g6, g7, g8, (by simp only [Act.put, List.setIfInBounds_toArray, List.set_cons_zero, List.set_cons_succ]), ?_⟩)
        have e0 := h2 0 (by decide)
        have e1 := h2 1 (by decide)
        have e3 := h2 3 (by decide)
        have e4 := h2 4 (by decide)
        have e5 := h2 5 (by decide)
        have e6 := h2 6 (by decide)
        have e7 := h2 7 (by decide)
        have e8 := h2 8 (by decide)
        have e9 := h2 9 (by decide)
        have e10 := h2 10 (by decide)
        have e11 := h2 11 (by decide)
        have e12 := h2 12 (by decide)
        have e13 := h2 13 (by decide)
        have e14 := h2 14 (by decide)
        have e15 := h2 15 (by decide)
        have e16 := h2 16 (by decide)
        have e17 := h2 17 (by decide)
        have e18 := h2 18 (by decide)
        have e19 := h2 19 (by decide)
        have e20 := h2 20 (by decide)
        have e21 := h2 21 (by decide)
        have e22 := h2 22 (by decide)
        have e23 := h2 23 (by decide)
        have e24 := h2 24 (by decide)
        simp only [HG, h1, e0, e1, e3, e4, e5, e6, e7, e8, e9, e10, e11, e12, e13, e14, e15, e16, e17, e18, e19, e20, e21, e22, e23, e24]
        exact ⟨cB, c0, c1, fun _ => (by first | rfl | trivial), c3, c4, c5, c6, c7, c8, c9, c10, c11, c12, c13, c14, c15, c16, c17, c18, c19, c20, c21, d19_20, d19_21, d20_21, s22, s23, s24⟩
      · intro f a' w' hf hpre hJ K hK
        simp only [Nat.reduceAdd] at hf hK
        have HK := Lib.hid hK
        clear hK
        simp [Region.binds] at hpre
        have hp2 : f 2 = true := (by first | exact hpre | exact hpre.1 | exact hpre.2.1 | exact hpre.2.2.1 | exact hpre.2 | exact hpre.2.2 | exact hpre.2.2.2.1)
        clear hpre
        obtain ⟨x40, x41, x42, x43, x44, x45, x46, x47, x48, x49, x50, x51, x52, x53, x54, x55, x56, x57, x58, x6, x7, x8, g6, g7, g8, hx, cB, c0, c1, c2, c3, c4, c5, c6, c7, c8, c9, c10, c11, c12, c13, c14, c15, c16, c17, c18, c19, c20, c21, d19_20, d19_21, d20_21, s22, s23, s24⟩ := hJ
        subst hx
        have ee := c2 hp2
        subst ee
        clear hp2
        have z1 := (hX2.kept cB).cell 1; simp only [List.getElem?_cons_zero, List.getElem?_cons_succ] at z1
        go_simp
        refine HK.out _ _ (fun f' h1 h2 => ⟨x40, x41, (.pointer (some ⟨w.heap.size, 1, none⟩)), (.int .u32 (a : Int)), x44, x45, x46, x47, x48, x49, x50, x51, x52, x53, x54, x55, x56, x57, x58, x6, x7, x8, g6, g7, g8, (by simp only [Act.put, List.setIfInBounds_toArray, List.set_cons_zero, List.set_cons_succ]), ?_⟩)
        have e0 := h2 0 (by decide)
        have e1 := h2 1 (by decide)
        have e2 := h2 2 (by decide)
        have e4 := h2 4 (by decide)
        have e5 := h2 5 (by decide)
        have e6 := h2 6 (by decide)
        have e7 := h2 7 (by decide)
        have e8 := h2 8 (by decide)
        have e9 := h2 9 (by decide)
        have e10 := h2 10 (by decide)
        have e11 := h2 11 (by decide)
        have e12 := h2 12 (by decide)
        have e13 := h2 13 (by decide)
        have e14 := h2 14 (by decide)
        have e15 := h2 15 (by decide)
        have e16 := h2 16 (by decide)
        have e17 := h2 17 (by decide)
        have e18 := h2 18 (by decide)
        have e19 := h2 19 (by decide)
        have e20 := h2 20 (by decide)
        have e21 := h2 21 (by decide)
        have e22 := h2 22 (by decide)
        have e23 := h2 23 (by decide)
        have e24 := h2 24 (by decide)
        simp only [HG, h1, e0, e1, e2, e4, e5, e6, e7, e8, e9, e10, e11, e12, e13, e14, e15, e16, e17, e18, e19, e20, e21, e22, e23, e24]
        exact ⟨cB, c0, c1, fun _ => (by first | rfl | trivial), fun _ => (by first | rfl | trivial), c4, c5, c6, c7, c8, c9, c10, c11, c12, c13, c14, c15, c16, c17, c18, c19, c20, c21, d19_20, d19_21, d20_21, s22, s23, s24⟩
      · intro f a' w' hf hpre hJ K hK
        simp only [Nat.reduceAdd] at hf hK
        have HK := Lib.hid hK
        clear hK
        simp [Region.binds] at hpre
        have hp3 : f 3 = true := (by first | exact hpre | exact hpre.1 | exact hpre.2.1 | exact hpre.2.2.1 | exact hpre.2 | exact hpre.2.2 | exact hpre.2.2.2.1)
        clear hpre
        obtain ⟨x40, x41, x42, x43, x44, x45, x46, x47, x48, x49, x50, x51, x52, x53, x54, x55, x56, x57, x58, x6, x7, x8, g6, g7, g8, hx, cB, c0, c1, c2, c3, c4, c5, c6, c7, c8, c9, c10, c11, c12, c13, c14, c15, c16, c17, c18, c19, c20, c21, d19_20, d19_21, d20_21, s22, s23, s24⟩ := hJ
        subst hx
        have ee := c3 hp3
        subst ee
        clear hp3
        go_simp
        refine HK.out _ _ (fun f' h1 h2 => ⟨x40, x41, x42, (.int .u32 (a : Int)), (.int .u32 (x1 : Int)), x45, x46, x47, x48, x49, x50, x51, x52, x53, x54, x55, x56, x57, x58, x6, x7, x8, g6, g7, g8, (by simp only [Act.put, List.setIfInBounds_toArray, List.set_cons_zero, List.set_cons_succ]), ?_⟩)
        have e0 := h2 0 (by decide)
        have e1 := h2 1 (by decide)
        have e2 := h2 2 (by decide)
        have e3 := h2 3 (by decide)
        have e5 := h2 5 (by decide)
        have e6 := h2 6 (by decide)
        have e7 := h2 7 (by decide)
        have e8 := h2 8 (by decide)
        have e9 := h2 9 (by decide)
        have e10 := h2 10 (by decide)
        have e11 := h2 11 (by decide)
        have e12 := h2 12 (by decide)
        have e13 := h2 13 (by decide)
        have e14 := h2 14 (by decide)
        have e15 := h2 15 (by decide)
        have e16 := h2 16 (by decide)
        have e17 := h2 17 (by decide)
        have e18 := h2 18 (by decide)
        have e19 := h2 19 (by decide)
        have e20 := h2 20 (by decide)
        have e21 := h2 21 (by decide)
        have e22 := h2 22 (by decide)
        have e23 := h2 23 (by decide)
        have e24 := h2 24 (by decide)
        simp only [HG, h1, e0, e1, e2, e3, e5, e6, e7, e8, e9, e10, e11, e12, e13, e14, e15, e16, e17, e18, e19, e20, e21, e22, e23, e24]
        exact ⟨cB, c0, c1, c2, fun _ => (by first | rfl | trivial), fun _ => (by first | rfl | trivial), c5, c6, c7, c8, c9, c10, c11, c12, c13, c14, c15, c16, c17, c18, c19, c20, c21, d19_20, d19_21, d20_21, s22, s23, s24⟩
      · intro f a' w' hf hpre hJ K hK
        simp only [Nat.reduceAdd] at hf hK
        have HK := Lib.hid hK
        clear hK
        simp [Region.binds] at hpre
        have hp4 : f 4 = true := (by first | exact hpre | exact hpre.1 | exact hpre.2.1 | exact hpre.2.2.1 | exact hpre.2 | exact hpre.2.2 | exact hpre.2.2.2.1)
        clear hpre
        obtain ⟨x40, x41, x42, x43, x44, x45, x46, x47, x48, x49, x50, x51, x52, x53, x54, x55, x56, x57, x58, x6, x7, x8, g6, g7, g8, hx, cB, c0, c1, c2, c3, c4, c5, c6, c7, c8, c9, c10, c11, c12, c13, c14, c15, c16, c17, c18, c19, c20, c21, d19_20, d19_21, d20_21, s22, s23, s24⟩ := hJ
        subst hx
        have ee := c4 hp4
        subst ee
        clear hp4
        go_simp
        refine HK.out _ _ (fun f' h1 h2 => ⟨x40, x41, x42, x43, (.int .u32 (x1 : Int)), (.int .u16 (x1 : Int)), x46, x47, x48, x49, x50, x51, x52, x53, x54, x55, x56, x57, x58, x6, x7, x8, g6, g7, g8, (by simp only [Act.put, List.setIfInBounds_toArray, List.set_cons_zero, List.set_cons_succ]), ?_⟩)
        have e0 := h2 0 (by decide)
        have e1 := h2 1 (by decide)
        have e2 := h2 2 (by decide)
        have e3 := h2 3 (by decide)
        have e4 := h2 4 (by decide)
        have e6 := h2 6 (by decide)
        have e7 := h2 7 (by decide)
        have e8 := h2 8 (by decide)
        have e9 := h2 9 (by decide)
        have e10 := h2 10 (by decide)
        have e11 := h2 11 (by decide)
        have e12 := h2 12 (by decide)
        have e13 := h2 13 (by decide)
        have e14 := h2 14 (by decide)
        have e15 := h2 15 (by decide)
        have e16 := h2 16 (by decide)
        have e17 := h2 17 (by decide)
        have e18 := h2 18 (by decide)
        have e19 := h2 19 (by decide)
        have e20 := h2 20 (by decide)
        have e21 := h2 21 (by decide)
        have e22 := h2 22 (by decide)
        have e23 := h2 23 (by decide)
        have e24 := h2 24 (by decide)
        simp only [HG, h1, e0, e1, e2, e3, e4, e6, e7, e8, e9, e10, e11, e12, e13, e14, e15, e16, e17, e18, e19, e20, e21, e22, e23, e24]
        exact ⟨cB, c0, c1, c2, c3, fun _ => (by first | rfl | trivial), fun _ => (by first | rfl | trivial), c6, c7, c8, c9, c10, c11, c12, c13, c14, c15, c16, c17, c18, c19, c20, c21, d19_20, d19_21, d20_21, s22, s23, s24⟩
      · intro f a' w' hf hpre hJ K hK
        simp only [Nat.reduceAdd] at hf hK
        have HK := Lib.hid hK
        clear hK
        simp [Region.binds] at hpre
        have hp1 : f 1 = true := (by first | exact hpre | exact hpre.1 | exact hpre.2.1 | exact hpre.2.2.1 | exact hpre.2 | exact hpre.2.2 | exact hpre.2.2.2.1)
        have hp5 : f 5 = true := (by first | exact hpre | exact hpre.1 | exact hpre.2.1 | exact hpre.2.2.1 | exact hpre.2 | exact hpre.2.2 | exact hpre.2.2.2.1)
        clear hpre
        obtain ⟨x40, x41, x42, x43, x44, x45, x46, x47, x48, x49, x50, x51, x52, x53, x54, x55, x56, x57, x58, x6, x7, x8, g6, g7, g8, hx, cB, c0, c1, c2, c3, c4, c5, c6, c7, c8, c9, c10, c11, c12, c13, c14, c15, c16, c17, c18, c19, c20, c21, d19_20, d19_21, d20_21, s22, s23, s24⟩ := hJ
        subst hx
        have ee := c1 hp1
        subst ee
        clear hp1
        have ee := c5 hp5
        subst ee
        clear hp5
        go_simp
        refine HK.out _ _ (fun f' h1 h2 => ⟨x40, (.int .u16 (m1 : Int)), x42, x43, x44, (.int .u16 (x1 : Int)), (.agg #[.int .u16 (m1 : Int), .int .u16 (x1 : Int)]), x47, x48, x49, x50, x51, x52, x53, x54, x55, x56, x57, x58, x6, x7, x8, g6, g7, g8, (by simp only [Act.put, List.setIfInBounds_toArray, List.set_cons_zero, List.set_cons_succ]), ?_⟩)
        have e0 := h2 0 (by decide)
        have e1 := h2 1 (by decide)
        have e2 := h2 2 (by decide)
        have e3 := h2 3 (by decide)
        have e4 := h2 4 (by decide)
        have e5 := h2 5 (by decide)
        have e7 := h2 7 (by decide)
        have e8 := h2 8 (by decide)
        have e9 := h2 9 (by decide)
        have e10 := h2 10 (by decide)
        have e11 := h2 11 (by decide)
        have e12 := h2 12 (by decide)
        have e13 := h2 13 (by decide)
        have e14 := h2 14 (by decide)
        have e15 := h2 15 (by decide)
        have e16 := h2 16 (by decide)
        have e17 := h2 17 (by decide)
        have e18 := h2 18 (by decide)
        have e19 := h2 19 (by decide)
        have e20 := h2 20 (by decide)
        have e21 := h2 21 (by decide)
        have e22 := h2 22 (by decide)
        have e23 := h2 23 (by decide)
        have e24 := h2 24 (by decide)
        simp only [HG, h1, e0, e1, e2, e3, e4, e5, e7, e8, e9, e10, e11, e12, e13, e14, e15, e16, e17, e18, e19, e20, e21, e22, e23, e24]
        exact ⟨cB, c0, fun _ => (by first | rfl | trivial), c2, c3, c4, fun _ => (by first | rfl | trivial), fun _ => (by first | rfl | trivial), c7, c8, c9, c10, c11, c12, c13, c14, c15, c16, c17, c18, c19, c20, c21, d19_20, d19_21, d20_21, s22, s23, s24⟩
      · intro f a' w' hf hpre hJ K hK
        simp only [Nat.reduceAdd] at hf hK
        have HK := Lib.hid hK
        clear hK
        clear hpre
        obtain ⟨x40, x41, x42, x43, x44, x45, x46, x47, x48, x49, x50, x51, x52, x53, x54, x55, x56, x57, x58, x6, x7, x8, g6, g7, g8, hx, cB, c0, c1, c2, c3, c4, c5, c6, c7, c8, c9, c10, c11, c12, c13, c14, c15, c16, c17, c18, c19, c20, c21, d19_20, d19_21, d20_21, s22, s23, s24⟩ := hJ
        subst hx
        go_simp
        refine HK.out _ _ (fun f' h1 h2 => ⟨x40, x41, x42, x43, x44, x45, x46, (.slice (some ad) n c), x48, x49, x50, x51, x52, x53, x54, x55, x56, x57, x58, x6, x7, x8, g6, g7, g8, (by simp only [Act.put, List.setIfInBounds_toArray, List.set_cons_zero, List.set_cons_succ]), ?_⟩)
        have e0 := h2 0 (by decide)
        have e1 := h2 1 (by decide)
        have e2 := h2 2 (by decide)
        have e3 := h2 3 (by decide)
        have e4 := h2 4 (by decide)
        have e5 := h2 5 (by decide)
        have e6 := h2 6 (by decide)
        have e8 := h2 8 (by decide)
        have e9 := h2 9 (by decide)
        have e10 := h2 10 (by decide)
        have e11 := h2 11 (by decide)
        have e12 := h2 12 (by decide)
        have e13 := h2 13 (by decide)
        have e14 := h2 14 (by decide)
        have e15 := h2 15 (by decide)
        have e16 := h2 16 (by decide)
        have e17 := h2 17 (by decide)
        have e18 := h2 18 (by decide)
        have e19 := h2 19 (by decide)
        have e20 := h2 20 (by decide)
        have e21 := h2 21 (by decide)
        have e22 := h2 22 (by decide)
        have e23 := h2 23 (by decide)
        have e24 := h2 24 (by decide)
        simp only [HG, h1, e0, e1, e2, e3, e4, e5, e6, e8, e9, e10, e11, e12, e13, e14, e15, e16, e17, e18, e19, e20, e21, e22, e23, e24]
        exact ⟨cB, c0, c1, c2, c3, c4, c5, c6, fun _ => (by first | rfl | trivial), c8, c9, c10, c11, c12, c13, c14, c15, c16, c17, c18, c19, c20, c21, d19_20, d19_21, d20_21, s22, s23, s24⟩
      · intro f a' w' hf hpre hJ K hK
        simp only [Nat.reduceAdd] at hf hK
        have HK := Lib.hid hK
        clear hK
        simp [Region.binds] at hpre
        have hp7 : f 7 = true := (by first | exact hpre | exact hpre.1 | exact hpre.2.1 | exact hpre.2.2.1 | exact hpre.2 | exact hpre.2.2 | exact hpre.2.2.2.1)
        clear hpre
        obtain ⟨x40, x41, x42, x43, x44, x45, x46, x47, x48, x49, x50, x51, x52, x53, x54, x55, x56, x57, x58, x6, x7, x8, g6, g7, g8, hx, cB, c0, c1, c2, c3, c4, c5, c6, c7, c8, c9, c10, c11, c12, c13, c14, c15, c16, c17, c18, c19, c20, c21, d19_20, d19_21, d20_21, s22, s23, s24⟩ := hJ
        subst hx
        have ee := c7 hp7
        subst ee
        clear hp7
        have hRB := HRL.out.below cB
        go_simp
        (with_reducible refine (lword_any l (some ad) n c 18 18 m2 _ hRB HN.out (by omega) (by omega) rfl HM2.out).mono ?_); rintro e w9 ⟨rfl, k9, rfl⟩; dsimp only; have hb9 := bel_dn0 w' k9
        refine HK.out _ _ (fun f' h1 h2 => ⟨x40, x41, x42, x43, x44, x45, x46, (.slice (some ad) n c), (.int .u16 (m2 : Int)), x49, x50, x51, x52, x53, x54, x55, x56, x57, x58, x6, x7, x8, g6, g7, g8, (by simp only [Act.put, List.setIfInBounds_toArray, List.set_cons_zero, List.set_cons_succ]), ?_⟩)
        have e0 := h2 0 (by decide)
        have e1 := h2 1 (by decide)
        have e2 := h2 2 (by decide)
        have e3 := h2 3 (by decide)
        have e4 := h2 4 (by decide)
        have e5 := h2 5 (by decide)
        have e6 := h2 6 (by decide)
        have e7 := h2 7 (by decide)
        have e9 := h2 9 (by decide)
        have e10 := h2 10 (by decide)
        have e11 := h2 11 (by decide)
        have e12 := h2 12 (by decide)
        have e13 := h2 13 (by decide)
        have e14 := h2 14 (by decide)
        have e15 := h2 15 (by decide)
        have e16 := h2 16 (by decide)
        have e17 := h2 17 (by decide)
        have e18 := h2 18 (by decide)
        have e19 := h2 19 (by decide)
        have e20 := h2 20 (by decide)
        have e21 := h2 21 (by decide)
        have e22 := h2 22 (by decide)
        have e23 := h2 23 (by decide)
        have e24 := h2 24 (by decide)
        simp only [HG, h1, e0, e1, e2, e3, e4, e5, e6, e7, e9, e10, e11, e12, e13, e14, e15, e16, e17, e18, e19, e20, e21, e22, e23, e24]
        exact ⟨below_call cB hb9, c0, c1, c2, c3, c4, c5, c6, fun _ => (by first | rfl | trivial), fun _ => (by first | rfl | trivial), c9, c10, c11, c12, c13, c14, c15, c16, c17, c18, fun h => ⟨(c19 h).1, (c19 h).2.1, (c19 h).2.2.kept hb9⟩, fun h => ⟨(c20 h).1, (c20 h).2.1, (c20 h).2.2.kept hb9⟩, fun h => ⟨(c21 h).1, (c21 h).2.1, (c21 h).2.2.kept hb9⟩, d19_20, d19_21, d20_21, s22, s23, s24⟩
      · intro f a' w' hf hpre hJ K hK
        simp only [Nat.reduceAdd] at hf hK
        have HK := Lib.hid hK
        clear hK
        clear hpre
        obtain ⟨x40, x41, x42, x43, x44, x45, x46, x47, x48, x49, x50, x51, x52, x53, x54, x55, x56, x57, x58, x6, x7, x8, g6, g7, g8, hx, cB, c0, c1, c2, c3, c4, c5, c6, c7, c8, c9, c10, c11, c12, c13, c14, c15, c16, c17, c18, c19, c20, c21, d19_20, d19_21, d20_21, s22, s23, s24⟩ := hJ
        subst hx
        go_simp
        refine HK.out _ _ (fun f' h1 h2 => ⟨x40, x41, x42, x43, x44, x45, x46, x47, x48, (.pointer (some ⟨w.heap.size, 1, none⟩)), x50, x51, x52, x53, x54, x55, x56, x57, x58, x6, x7, x8, g6, g7, g8, (by simp only [Act.put, List.setIfInBounds_toArray, List.set_cons_zero, List.set_cons_succ]), ?_⟩)
        have e0 := h2 0 (by decide)
        have e1 := h2 1 (by decide)
        have e2 := h2 2 (by decide)
        have e3 := h2 3 (by decide)
        have e4 := h2 4 (by decide)
        have e5 := h2 5 (by decide)
        have e6 := h2 6 (by decide)
        have e7 := h2 7 (by decide)
        have e8 := h2 8 (by decide)
        have e10 := h2 10 (by decide)
        have e11 := h2 11 (by decide)
        have e12 := h2 12 (by decide)
        have e13 := h2 13 (by decide)
        have e14 := h2 14 (by decide)
        have e15 := h2 15 (by decide)
        have e16 := h2 16 (by decide)
        have e17 := h2 17 (by decide)
        have e18 := h2 18 (by decide)
        have e19 := h2 19 (by decide)
        have e20 := h2 20 (by decide)
        have e21 := h2 21 (by decide)
        have e22 := h2 22 (by decide)
        have e23 := h2 23 (by decide)
        have e24 := h2 24 (by decide)
        simp only [HG, h1, e0, e1, e2, e3, e4, e5, e6, e7, e8, e10, e11, e12, e13, e14, e15, e16, e17, e18, e19, e20, e21, e22, e23, e24]
        exact ⟨cB, c0, c1, c2, c3, c4, c5, c6, c7, c8, fun _ => (by first | rfl | trivial), c10, c11, c12, c13, c14, c15, c16, c17, c18, c19, c20, c21, d19_20, d19_21, d20_21, s22, s23, s24⟩
      · intro f a' w' hf hpre hJ K hK
        simp only [Nat.reduceAdd] at hf hK
        have HK := Lib.hid hK
        clear hK
        simp [Region.binds] at hpre
        have hp9 : f 9 = true := (by first | exact hpre | exact hpre.1 | exact hpre.2.1 | exact hpre.2.2.1 | exact hpre.2 | exact hpre.2.2 | exact hpre.2.2.2.1)
        clear hpre
        obtain ⟨x40, x41, x42, x43, x44, x45, x46, x47, x48, x49, x50, x51, x52, x53, x54, x55, x56, x57, x58, x6, x7, x8, g6, g7, g8, hx, cB, c0, c1, c2, c3, c4, c5, c6, c7, c8, c9, c10, c11, c12, c13, c14, c15, c16, c17, c18, c19, c20, c21, d19_20, d19_21, d20_21, s22, s23, s24⟩ := hJ
        subst hx
        have ee := c9 hp9
        subst ee
        clear hp9
        have z1 := (hX2.kept cB).cell 1; simp only [List.getElem?_cons_zero, List.getElem?_cons_succ] at z1
        go_simp
        refine HK.out _ _ (fun f' h1 h2 => ⟨x40, x41, x42, x43, x44, x45, x46, x47, x48, (.pointer (some ⟨w.heap.size, 1, none⟩)), (.int .u32 (a : Int)), x51, x52, x53, x54, x55, x56, x57, x58, x6, x7, x8, g6, g7, g8, (by simp only [Act.put, List.setIfInBounds_toArray, List.set_cons_zero, List.set_cons_succ]), ?_⟩)
        have e0 := h2 0 (by decide)
        have e1 := h2 1 (by decide)
        have e2 := h2 2 (by decide)
        have e3 := h2 3 (by decide)
        have e4 := h2 4 (by decide)
        have e5 := h2 5 (by decide)
        have e6 := h2 6 (by decide)
        have e7 := h2 7 (by decide)
        have e8 := h2 8 (by decide)
        have e9 := h2 9 (by decide)
        have e11 := h2 11 (by decide)
        have e12 := h2 12 (by decide)
        have e13 := h2 13 (by decide)
        have e14 := h2 14 (by decide)
        have e15 := h2 15 (by decide)
        have e16 := h2 16 (by decide)
        have e17 := h2 17 (by decide)
        have e18 := h2 18 (by decide)
        have e19 := h2 19 (by decide)
        have e20 := h2 20 (by decide)
        have e21 := h2 21 (by decide)
        have e22 := h2 22 (by decide)
        have e23 := h2 23 (by decide)
        have e24 := h2 24 (by decide)
        simp only [HG, h1, e0, e1, e2, e3, e4, e5, e6, e7, e8, e9, e11, e12, e13, e14, e15, e16, e17, e18, e19, e20, e21, e22, e23, e24]
        exact ⟨cB, c0, c1, c2, c3, c4, c5, c6, c7, c8, fun _ => (by first | rfl | trivial), fun _ => (by first | rfl | trivial), c11, c12, c13, c14, c15, c16, c17, c18, c19, c20, c21, d19_20, d19_21, d20_21, s22, s23, s24⟩
      · intro f a' w' hf hpre hJ K hK
        simp only [Nat.reduceAdd] at hf hK
        have HK := Lib.hid hK
        clear hK
        simp [Region.binds] at hpre
        have hp10 : f 10 = true := (by first | exact hpre | exact hpre.1 | exact hpre.2.1 | exact hpre.2.2.1 | exact hpre.2 | exact hpre.2.2 | exact hpre.2.2.2.1)
        clear hpre
        obtain ⟨x40, x41, x42, x43, x44, x45, x46, x47, x48, x49, x50, x51, x52, x53, x54, x55, x56, x57, x58, x6, x7, x8, g6, g7, g8, hx, cB, c0, c1, c2, c3, c4, c5, c6, c7, c8, c9, c10, c11, c12, c13, c14, c15, c16, c17, c18, c19, c20, c21, d19_20, d19_21, d20_21, s22, s23, s24⟩ := hJ
        subst hx
        have ee := c10 hp10
        subst ee
        clear hp10
        go_simp
        refine HK.out _ _ (fun f' h1 h2 => ⟨x40, x41, x42, x43, x44, x45, x46, x47, x48, x49, (.int .u32 (a : Int)), (.int .u16 (x2 : Int)), x52, x53, x54, x55, x56, x57, x58, x6, x7, x8, g6, g7, g8, (by simp only [Act.put, List.setIfInBounds_toArray, List.set_cons_zero, List.set_cons_succ]), ?_⟩)
        have e0 := h2 0 (by decide)
        have e1 := h2 1 (by decide)
        have e2 := h2 2 (by decide)
        have e3 := h2 3 (by decide)
        have e4 := h2 4 (by decide)
        have e5 := h2 5 (by decide)
        have e6 := h2 6 (by decide)
        have e7 := h2 7 (by decide)
        have e8 := h2 8 (by decide)
        have e9 := h2 9 (by decide)
        have e10 := h2 10 (by decide)
        have e12 := h2 12 (by decide)
        have e13 := h2 13 (by decide)
        have e14 := h2 14 (by decide)
        have e15 := h2 15 (by decide)
        have e16 := h2 16 (by decide)
        have e17 := h2 17 (by decide)
        have e18 := h2 18 (by decide)
        have e19 := h2 19 (by decide)
        have e20 := h2 20 (by decide)
        have e21 := h2 21 (by decide)
        have e22 := h2 22 (by decide)
        have e23 := h2 23 (by decide)
        have e24 := h2 24 (by decide)
        simp only [HG, h1, e0, e1, e2, e3, e4, e5, e6, e7, e8, e9, e10, e12, e13, e14, e15, e16, e17, e18, e19, e20, e21, e22, e23, e24]
        exact ⟨cB, c0, c1, c2, c3, c4, c5, c6, c7, c8, c9, fun _ => (by first | rfl | trivial), fun _ => (by first | rfl | trivial), c12, c13, c14, c15, c16, c17, c18, c19, c20, c21, d19_20, d19_21, d20_21, s22, s23, s24⟩
      · intro f a' w' hf hpre hJ K hK
        simp only [Nat.reduceAdd] at hf hK
        have HK := Lib.hid hK
        clear hK
        simp [Region.binds] at hpre
        have hp8 : f 8 = true := (by first | exact hpre | exact hpre.1 | exact hpre.2.1 | exact hpre.2.2.1 | exact hpre.2 | exact hpre.2.2 | exact hpre.2.2.2.1)
        have hp11 : f 11 = true := (by first | exact hpre | exact hpre.1 | exact hpre.2.1 | exact hpre.2.2.1 | exact hpre.2 | exact hpre.2.2 | exact hpre.2.2.2.1)
        clear hpre
        obtain ⟨x40, x41, x42, x43, x44, x45, x46, x47, x48, x49, x50, x51, x52, x53, x54, x55, x56, x57, x58, x6, x7, x8, g6, g7, g8, hx, cB, c0, c1, c2, c3, c4, c5, c6, c7, c8, c9, c10, c11, c12, c13, c14, c15, c16, c17, c18, c19, c20, c21, d19_20, d19_21, d20_21, s22, s23, s24⟩ := hJ
        subst hx
        have ee := c8 hp8
        subst ee
        clear hp8
        have ee := c11 hp11
        subst ee
        clear hp11
        go_simp
        refine HK.out _ _ (fun f' h1 h2 => ⟨x40, x41, x42, x43, x44, x45, x46, x47, (.int .u16 (m2 : Int)), x49, x50, (.int .u16 (x2 : Int)), (.agg #[.int .u16 (m2 : Int), .int .u16 (x2 : Int)]), x53, x54, x55, x56, x57, x58, x6, x7, x8, g6, g7, g8, (by simp only [Act.put, List.setIfInBounds_toArray, List.set_cons_zero, List.set_cons_succ]), ?_⟩)
        have e0 := h2 0 (by decide)
        have e1 := h2 1 (by decide)
        have e2 := h2 2 (by decide)
        have e3 := h2 3 (by decide)
        have e4 := h2 4 (by decide)
        have e5 := h2 5 (by decide)
        have e6 := h2 6 (by decide)
        have e7 := h2 7 (by decide)
        have e8 := h2 8 (by decide)
        have e9 := h2 9 (by decide)
        have e10 := h2 10 (by decide)
        have e11 := h2 11 (by decide)
        have e13 := h2 13 (by decide)
        have e14 := h2 14 (by decide)
        have e15 := h2 15 (by decide)
        have e16 := h2 16 (by decide)
        have e17 := h2 17 (by decide)
        have e18 := h2 18 (by decide)
        have e19 := h2 19 (by decide)
        have e20 := h2 20 (by decide)
        have e21 := h2 21 (by decide)
        have e22 := h2 22 (by decide)
        have e23 := h2 23 (by decide)
        have e24 := h2 24 (by decide)
        simp only [HG, h1, e0, e1, e2, e3, e4, e5, e6, e7, e8, e9, e10, e11, e13, e14, e15, e16, e17, e18, e19, e20, e21, e22, e23, e24]
        exact ⟨cB, c0, c1, c2, c3, c4, c5, c6, c7, fun _ => (by first | rfl | trivial), c9, c10, fun _ => (by first | rfl | trivial), fun _ => (by first | rfl | trivial), c13, c14, c15, c16, c17, c18, c19, c20, c21, d19_20, d19_21, d20_21, s22, s23, s24⟩
      · intro f a' w' hf hpre hJ K hK
        simp only [Nat.reduceAdd] at hf hK
        have HK := Lib.hid hK
        clear hK
        clear hpre
        obtain ⟨x40, x41, x42, x43, x44, x45, x46, x47, x48, x49, x50, x51, x52, x53, x54, x55, x56, x57, x58, x6, x7, x8, g6, g7, g8, hx, cB, c0, c1, c2, c3, c4, c5, c6, c7, c8, c9, c10, c11, c12, c13, c14, c15, c16, c17, c18, c19, c20, c21, d19_20, d19_21, d20_21, s22, s23, s24⟩ := hJ
        subst hx
        go_simp
        refine HK.out _ _ (fun f' h1 h2 => ⟨x40, x41, x42, x43, x44, x45, x46, x47, x48, x49, x50, x51, x52, (.slice (some ad) n c), x54, x55, x56, x57, x58, x6, x7, x8, g6, g7, g8, (by simp only [Act.put, List.setIfInBounds_toArray, List.set_cons_zero, List.set_cons_succ]), ?_⟩)
        have e0 := h2 0 (by decide)
        have e1 := h2 1 (by decide)
        have e2 := h2 2 (by decide)
        have e3 := h2 3 (by decide)
        have e4 := h2 4 (by decide)
        have e5 := h2 5 (by decide)
        have e6 := h2 6 (by decide)
        have e7 := h2 7 (by decide)
        have e8 := h2 8 (by decide)
        have e9 := h2 9 (by decide)
        have e10 := h2 10 (by decide)
        have e11 := h2 11 (by decide)
        have e12 := h2 12 (by decide)
        have e14 := h2 14 (by decide)
        have e15 := h2 15 (by decide)
        have e16 := h2 16 (by decide)
        have e17 := h2 17 (by decide)
        have e18 := h2 18 (by decide)
        have e19 := h2 19 (by decide)
        have e20 := h2 20 (by decide)
        have e21 := h2 21 (by decide)
        have e22 := h2 22 (by decide)
        have e23 := h2 23 (by decide)
        have e24 := h2 24 (by decide)
        simp only [HG, h1, e0, e1, e2, e3, e4, e5, e6, e7, e8, e9, e10, e11, e12, e14, e15, e16, e17, e18, e19, e20, e21, e22, e23, e24]
        exact ⟨cB, c0, c1, c2, c3, c4, c5, c6, c7, c8, c9, c10, c11, c12, fun _ => (by first | rfl | trivial), c14, c15, c16, c17, c18, c19, c20, c21, d19_20, d19_21, d20_21, s22, s23, s24⟩
      · intro f a' w' hf hpre hJ K hK
        simp only [Nat.reduceAdd] at hf hK
        have HK := Lib.hid hK
        clear hK
        simp [Region.binds] at hpre
        have hp13 : f 13 = true := (by first | exact hpre | exact hpre.1 | exact hpre.2.1 | exact hpre.2.2.1 | exact hpre.2 | exact hpre.2.2 | exact hpre.2.2.2.1)
        clear hpre
        obtain ⟨x40, x41, x42, x43, x44, x45, x46, x47, x48, x49, x50, x51, x52, x53, x54, x55, x56, x57, x58, x6, x7, x8, g6, g7, g8, hx, cB, c0, c1, c2, c3, c4, c5, c6, c7, c8, c9, c10, c11, c12, c13, c14, c15, c16, c17, c18, c19, c20, c21, d19_20, d19_21, d20_21, s22, s23, s24⟩ := hJ
        subst hx
        have ee := c13 hp13
        subst ee
        clear hp13
        have hRB := HRL.out.below cB
        go_simp
        (with_reducible refine (lword_any l (some ad) n c 22 22 m3 _ hRB HN.out (by omega) (by omega) rfl HM3.out).mono ?_); rintro e w9 ⟨rfl, k9, rfl⟩; dsimp only; have hb9 := bel_dn0 w' k9
        refine HK.out _ _ (fun f' h1 h2 => ⟨x40, x41, x42, x43, x44, x45, x46, x47, x48, x49, x50, x51, x52, (.slice (some ad) n c), (.int .u16 (m3 : Int)), x55, x56, x57, x58, x6, x7, x8, g6, g7, g8, (by simp only [Act.put, List.setIfInBounds_toArray, List.set_cons_zero, List.set_cons_succ]), ?_⟩)
        have e0 := h2 0 (by decide)
        have e1 := h2 1 (by decide)
        have e2 := h2 2 (by decide)
        have e3 := h2 3 (by decide)
        have e4 := h2 4 (by decide)
        have e5 := h2 5 (by decide)
        have e6 := h2 6 (by decide)
        have e7 := h2 7 (by decide)
        have e8 := h2 8 (by decide)
        have e9 := h2 9 (by decide)
        have e10 := h2 10 (by decide)
        have e11 := h2 11 (by decide)
        have e12 := h2 12 (by decide)
        have e13 := h2 13 (by decide)
        have e15 := h2 15 (by decide)
        have e16 := h2 16 (by decide)
        have e17 := h2 17 (by decide)
        have e18 := h2 18 (by decide)
        have e19 := h2 19 (by decide)
        have e20 := h2 20 (by decide)
        have e21 := h2 21 (by decide)
        have e22 := h2 22 (by decide)
        have e23 := h2 23 (by decide)
        have e24 := h2 24 (by decide)
        simp only [HG, h1, e0, e1, e2, e3, e4, e5, e6, e7, e8, e9, e10, e11, e12, e13, e15, e16, e17, e18, e19, e20, e21, e22, e23, e24]
        exact ⟨below_call cB hb9, c0, c1, c2, c3, c4, c5, c6, c7, c8, c9, c10, c11, c12, fun _ => (by first | rfl | trivial), fun _ => (by first | rfl | trivial), c15, c16, c17, c18, fun h => ⟨(c19 h).1, (c19 h).2.1, (c19 h).2.2.kept hb9⟩, fun h => ⟨(c20 h).1, (c20 h).2.1, (c20 h).2.2.kept hb9⟩, fun h => ⟨(c21 h).1, (c21 h).2.1, (c21 h).2.2.kept hb9⟩, d19_20, d19_21, d20_21, s22, s23, s24⟩
      · intro f a' w' hf hpre hJ K hK
        simp only [Nat.reduceAdd] at hf hK
        have HK := Lib.hid hK
        clear hK
        clear hpre
        obtain ⟨x40, x41, x42, x43, x44, x45, x46, x47, x48, x49, x50, x51, x52, x53, x54, x55, x56, x57, x58, x6, x7, x8, g6, g7, g8, hx, cB, c0, c1, c2, c3, c4, c5, c6, c7, c8, c9, c10, c11, c12, c13, c14, c15, c16, c17, c18, c19, c20, c21, d19_20, d19_21, d20_21, s22, s23, s24⟩ := hJ
        subst hx
        go_simp
        refine HK.out _ _ (fun f' h1 h2 => ⟨x40, x41, x42, x43, x44, x45, x46, x47, x48, x49, x50, x51, x52, x53, x54, (.pointer (some ⟨w.heap.size, 2, none⟩)), x56, x57, x58, x6, x7, x8, g6, g7, g8, (by simp only [Act.put, List.setIfInBounds_toArray, List.set_cons_zero, List.set_cons_succ]), ?_⟩)
        have e0 := h2 0 (by decide)
        have e1 := h2 1 (by decide)
        have e2 := h2 2 (by decide)
        have e3 := h2 3 (by decide)
        have e4 := h2 4 (by decide)
        have e5 := h2 5 (by decide)
        have e6 := h2 6 (by decide)
        have e7 := h2 7 (by decide)
        have e8 := h2 8 (by decide)
        have e9 := h2 9 (by decide)
        have e10 := h2 10 (by decide)
        have e11 := h2 11 (by decide)
        have e12 := h2 12 (by decide)
        have e13 := h2 13 (by decide)
        have e14 := h2 14 (by decide)
        have e16 := h2 16 (by decide)
        have e17 := h2 17 (by decide)
        have e18 := h2 18 (by decide)
        have e19 := h2 19 (by decide)
        have e20 := h2 20 (by decide)
        have e21 := h2 21 (by decide)
        have e22 := h2 22 (by decide)
        have e23 := h2 23 (by decide)
        have e24 := h2 24 (by decide)
        simp only [HG, h1, e0, e1, e2, e3, e4, e5, e6, e7, e8, e9, e10, e11, e12, e13, e14, e16, e17, e18, e19, e20, e21, e22, e23, e24]
        exact ⟨cB, c0, c1, c2, c3, c4, c5, c6, c7, c8, c9, c10, c11, c12, c13, c14, fun _ => (by first | rfl | trivial), c16, c17, c18, c19, c20, c21, d19_20, d19_21, d20_21, s22, s23, s24⟩
      · intro f a' w' hf hpre hJ K hK
        simp only [Nat.reduceAdd] at hf hK
        have HK := Lib.hid hK
        clear hK
        simp [Region.binds] at hpre
        have hp15 : f 15 = true := (by first | exact hpre | exact hpre.1 | exact hpre.2.1 | exact hpre.2.2.1 | exact hpre.2 | exact hpre.2.2 | exact hpre.2.2.2.1)
        clear hpre
        obtain ⟨x40, x41, x42, x43, x44, x45, x46, x47, x48, x49, x50, x51, x52, x53, x54, x55, x56, x57, x58, x6, x7, x8, g6, g7, g8, hx, cB, c0, c1, c2, c3, c4, c5, c6, c7, c8, c9, c10, c11, c12, c13, c14, c15, c16, c17, c18, c19, c20, c21, d19_20, d19_21, d20_21, s22, s23, s24⟩ := hJ
        subst hx
        have ee := c15 hp15
        subst ee
        clear hp15
        have z1 := (hX2.kept cB).cell 2; simp only [List.getElem?_cons_zero, List.getElem?_cons_succ] at z1
        go_simp
        refine HK.out _ _ (fun f' h1 h2 => ⟨x40, x41, x42, x43, x44, x45, x46, x47, x48, x49, x50, x51, x52, x53, x54, (.pointer (some ⟨w.heap.size, 2, none⟩)), (.int .i64 (q : Int)), x57, x58, x6, x7, x8, g6, g7, g8, (by simp only [Act.put, List.setIfInBounds_toArray, List.set_cons_zero, List.set_cons_succ]), ?_⟩)
        have e0 := h2 0 (by decide)
        have e1 := h2 1 (by decide)
        have e2 := h2 2 (by decide)
        have e3 := h2 3 (by decide)
        have e4 := h2 4 (by decide)
        have e5 := h2 5 (by decide)
        have e6 := h2 6 (by decide)
        have e7 := h2 7 (by decide)
        have e8 := h2 8 (by decide)
        have e9 := h2 9 (by decide)
        have e10 := h2 10 (by decide)
        have e11 := h2 11 (by decide)
        have e12 := h2 12 (by decide)
        have e13 := h2 13 (by decide)
        have e14 := h2 14 (by decide)
        have e15 := h2 15 (by decide)
        have e17 := h2 17 (by decide)
        have e18 := h2 18 (by decide)
        have e19 := h2 19 (by decide)
        have e20 := h2 20 (by decide)
        have e21 := h2 21 (by decide)
        have e22 := h2 22 (by decide)
        have e23 := h2 23 (by decide)
        have e24 := h2 24 (by decide)
        simp only [HG, h1, e0, e1, e2, e3, e4, e5, e6, e7, e8, e9, e10, e11, e12, e13, e14, e15, e17, e18, e19, e20, e21, e22, e23, e24]
        exact ⟨cB, c0, c1, c2, c3, c4, c5, c6, c7, c8, c9, c10, c11, c12, c13, c14, fun _ => (by first | rfl | trivial), fun _ => (by first | rfl | trivial), c17, c18, c19, c20, c21, d19_20, d19_21, d20_21, s22, s23, s24⟩
      · intro f a' w' hf hpre hJ K hK
        simp only [Nat.reduceAdd] at hf hK
        have HK := Lib.hid hK
        clear hK
        simp [Region.binds] at hpre
        have hp16 : f 16 = true := (by first | exact hpre | exact hpre.1 | exact hpre.2.1 | exact hpre.2.2.1 | exact hpre.2 | exact hpre.2.2 | exact hpre.2.2.2.1)
        clear hpre
        obtain ⟨x40, x41, x42, x43, x44, x45, x46, x47, x48, x49, x50, x51, x52, x53, x54, x55, x56, x57, x58, x6, x7, x8, g6, g7, g8, hx, cB, c0, c1, c2, c3, c4, c5, c6, c7, c8, c9, c10, c11, c12, c13, c14, c15, c16, c17, c18, c19, c20, c21, d19_20, d19_21, d20_21, s22, s23, s24⟩ := hJ
        subst hx
        have ee := c16 hp16
        subst ee
        clear hp16
        go_simp
        refine HK.out _ _ (fun f' h1 h2 => ⟨x40, x41, x42, x43, x44, x45, x46, x47, x48, x49, x50, x51, x52, x53, x54, x55, (.int .i64 (q : Int)), (.int .u16 (q : Int)), x58, x6, x7, x8, g6, g7, g8, (by simp only [Act.put, List.setIfInBounds_toArray, List.set_cons_zero, List.set_cons_succ]), ?_⟩)
        have e0 := h2 0 (by decide)
        have e1 := h2 1 (by decide)
        have e2 := h2 2 (by decide)
        have e3 := h2 3 (by decide)
        have e4 := h2 4 (by decide)
        have e5 := h2 5 (by decide)
        have e6 := h2 6 (by decide)
        have e7 := h2 7 (by decide)
        have e8 := h2 8 (by decide)
        have e9 := h2 9 (by decide)
        have e10 := h2 10 (by decide)
        have e11 := h2 11 (by decide)
        have e12 := h2 12 (by decide)
        have e13 := h2 13 (by decide)
        have e14 := h2 14 (by decide)
        have e15 := h2 15 (by decide)
        have e16 := h2 16 (by decide)
        have e18 := h2 18 (by decide)
        have e19 := h2 19 (by decide)
        have e20 := h2 20 (by decide)
        have e21 := h2 21 (by decide)
        have e22 := h2 22 (by decide)
        have e23 := h2 23 (by decide)
        have e24 := h2 24 (by decide)
        simp only [HG, h1, e0, e1, e2, e3, e4, e5, e6, e7, e8, e9, e10, e11, e12, e13, e14, e15, e16, e18, e19, e20, e21, e22, e23, e24]
        exact ⟨cB, c0, c1, c2, c3, c4, c5, c6, c7, c8, c9, c10, c11, c12, c13, c14, c15, fun _ => (by first | rfl | trivial), fun _ => (by first | rfl | trivial), c18, c19, c20, c21, d19_20, d19_21, d20_21, s22, s23, s24⟩
      · intro f a' w' hf hpre hJ K hK
        simp only [Nat.reduceAdd] at hf hK
        have HK := Lib.hid hK
        clear hK
        simp [Region.binds] at hpre
        have hp14 : f 14 = true := (by first | exact hpre | exact hpre.1 | exact hpre.2.1 | exact hpre.2.2.1 | exact hpre.2 | exact hpre.2.2 | exact hpre.2.2.2.1)
        have hp17 : f 17 = true := (by first | exact hpre | exact hpre.1 | exact hpre.2.1 | exact hpre.2.2.1 | exact hpre.2 | exact hpre.2.2 | exact hpre.2.2.2.1)
        clear hpre
        obtain ⟨x40, x41, x42, x43, x44, x45, x46, x47, x48, x49, x50, x51, x52, x53, x54, x55, x56, x57, x58, x6, x7, x8, g6, g7, g8, hx, cB, c0, c1, c2, c3, c4, c5, c6, c7, c8, c9, c10, c11, c12, c13, c14, c15, c16, c17, c18, c19, c20, c21, d19_20, d19_21, d20_21, s22, s23, s24⟩ := hJ
        subst hx
        have ee := c14 hp14
        subst ee
        clear hp14
        have ee := c17 hp17
        subst ee
        clear hp17
        go_simp
        refine HK.out _ _ (fun f' h1 h2 => ⟨x40, x41, x42, x43, x44, x45, x46, x47, x48, x49, x50, x51, x52, x53, (.int .u16 (m3 : Int)), x55, x56, (.int .u16 (q : Int)), (.agg #[.int .u16 (m3 : Int), .int .u16 (q : Int)]), x6, x7, x8, g6, g7, g8, (by simp only [Act.put, List.setIfInBounds_toArray, List.set_cons_zero, List.set_cons_succ]), ?_⟩)
        have e0 := h2 0 (by decide)
        have e1 := h2 1 (by decide)
        have e2 := h2 2 (by decide)
        have e3 := h2 3 (by decide)
        have e4 := h2 4 (by decide)
        have e5 := h2 5 (by decide)
        have e6 := h2 6 (by decide)
        have e7 := h2 7 (by decide)
        have e8 := h2 8 (by decide)
        have e9 := h2 9 (by decide)
        have e10 := h2 10 (by decide)
        have e11 := h2 11 (by decide)
        have e12 := h2 12 (by decide)
        have e13 := h2 13 (by decide)
        have e14 := h2 14 (by decide)
        have e15 := h2 15 (by decide)
        have e16 := h2 16 (by decide)
        have e17 := h2 17 (by decide)
        have e19 := h2 19 (by decide)
        have e20 := h2 20 (by decide)
        have e21 := h2 21 (by decide)
        have e22 := h2 22 (by decide)
        have e23 := h2 23 (by decide)
        have e24 := h2 24 (by decide)
        simp only [HG, h1, e0, e1, e2, e3, e4, e5, e6, e7, e8, e9, e10, e11, e12, e13, e14, e15, e16, e17, e19, e20, e21, e22, e23, e24]
        exact ⟨cB, c0, c1, c2, c3, c4, c5, c6, c7, c8, c9, c10, c11, c12, c13, fun _ => (by first | rfl | trivial), c15, c16, fun _ => (by first | rfl | trivial), fun _ => (by first | rfl | trivial), c19, c20, c21, d19_20, d19_21, d20_21, s22, s23, s24⟩
      · intro f a' w' hf hpre hJ K hK
        simp only [Nat.reduceAdd] at hf hK
        have HK := Lib.hid hK
        clear hK
        clear hpre
        obtain ⟨x40, x41, x42, x43, x44, x45, x46, x47, x48, x49, x50, x51, x52, x53, x54, x55, x56, x57, x58, x6, x7, x8, g6, g7, g8, hx, cB, c0, c1, c2, c3, c4, c5, c6, c7, c8, c9, c10, c11, c12, c13, c14, c15, c16, c17, c18, c19, c20, c21, d19_20, d19_21, d20_21, s22, s23, s24⟩ := hJ
        subst hx
        have hn : ¬ f 22 = true := fun h => by simp [s22 h] at hf
        go_simp
        refine HK.out _ _ (fun f' h1 h2 => ⟨x40, x41, x42, x43, x44, x45, x46, x47, x48, x49, x50, x51, x52, x53, x54, x55, x56, x57, x58, (.pointer (some ⟨w'.heap.size, 0, none⟩)), x7, x8, w'.heap.size, g7, g8, (by simp only [Act.put, List.setIfInBounds_toArray, List.set_cons_zero, List.set_cons_succ]), ?_⟩)
        have e0 := h2 0 (by decide)
        have e1 := h2 1 (by decide)
        have e2 := h2 2 (by decide)
        have e3 := h2 3 (by decide)
        have e4 := h2 4 (by decide)
        have e5 := h2 5 (by decide)
        have e6 := h2 6 (by decide)
        have e7 := h2 7 (by decide)
        have e8 := h2 8 (by decide)
        have e9 := h2 9 (by decide)
        have e10 := h2 10 (by decide)
        have e11 := h2 11 (by decide)
        have e12 := h2 12 (by decide)
        have e13 := h2 13 (by decide)
        have e14 := h2 14 (by decide)
        have e15 := h2 15 (by decide)
        have e16 := h2 16 (by decide)
        have e17 := h2 17 (by decide)
        have e18 := h2 18 (by decide)
        have e20 := h2 20 (by decide)
        have e21 := h2 21 (by decide)
        have e22 := h2 22 (by decide)
        have e23 := h2 23 (by decide)
        have e24 := h2 24 (by decide)
        simp only [HG, h1, e0, e1, e2, e3, e4, e5, e6, e7, e8, e9, e10, e11, e12, e13, e14, e15, e16, e17, e18, e20, e21, e22, e23, e24]
        exact ⟨below_al cB _, c0, c1, c2, c3, c4, c5, c6, c7, c8, c9, c10, c11, c12, c13, c14, c15, c16, c17, c18, fun _ => ⟨(by first | rfl | trivial), cB.size, by rw [if_neg hn]; exact Blk.new w' _ _⟩, fun h => ⟨(c20 h).1, (c20 h).2.1, (c20 h).2.2.alloc _⟩, fun h => ⟨(c21 h).1, (c21 h).2.1, (c21 h).2.2.alloc _⟩, fun _ h => Nat.ne_of_gt (c20 h).2.2.lt, fun _ h => Nat.ne_of_gt (c21 h).2.2.lt, d20_21, fun _ => (by first | rfl | trivial), s23, s24⟩
      · intro f a' w' hf hpre hJ K hK
        simp only [Nat.reduceAdd] at hf hK
        have HK := Lib.hid hK
        clear hK
        clear hpre
        obtain ⟨x40, x41, x42, x43, x44, x45, x46, x47, x48, x49, x50, x51, x52, x53, x54, x55, x56, x57, x58, x6, x7, x8, g6, g7, g8, hx, cB, c0, c1, c2, c3, c4, c5, c6, c7, c8, c9, c10, c11, c12, c13, c14, c15, c16, c17, c18, c19, c20, c21, d19_20, d19_21, d20_21, s22, s23, s24⟩ := hJ
        subst hx
        have hn : ¬ f 23 = true := fun h => by simp [s23 h] at hf
        go_simp
        refine HK.out _ _ (fun f' h1 h2 => ⟨x40, x41, x42, x43, x44, x45, x46, x47, x48, x49, x50, x51, x52, x53, x54, x55, x56, x57, x58, x6, (.pointer (some ⟨w'.heap.size, 0, none⟩)), x8, g6, w'.heap.size, g8, (by simp only [Act.put, List.setIfInBounds_toArray, List.set_cons_zero, List.set_cons_succ]), ?_⟩)
        have e0 := h2 0 (by decide)
        have e1 := h2 1 (by decide)
        have e2 := h2 2 (by decide)
        have e3 := h2 3 (by decide)
        have e4 := h2 4 (by decide)
        have e5 := h2 5 (by decide)
        have e6 := h2 6 (by decide)
        have e7 := h2 7 (by decide)
        have e8 := h2 8 (by decide)
        have e9 := h2 9 (by decide)
        have e10 := h2 10 (by decide)
        have e11 := h2 11 (by decide)
        have e12 := h2 12 (by decide)
        have e13 := h2 13 (by decide)
        have e14 := h2 14 (by decide)
        have e15 := h2 15 (by decide)
        have e16 := h2 16 (by decide)
        have e17 := h2 17 (by decide)
        have e18 := h2 18 (by decide)
        have e19 := h2 19 (by decide)
        have e21 := h2 21 (by decide)
        have e22 := h2 22 (by decide)
        have e23 := h2 23 (by decide)
        have e24 := h2 24 (by decide)
        simp only [HG, h1, e0, e1, e2, e3, e4, e5, e6, e7, e8, e9, e10, e11, e12, e13, e14, e15, e16, e17, e18, e19, e21, e22, e23, e24]
        exact ⟨below_al cB _, c0, c1, c2, c3, c4, c5, c6, c7, c8, c9, c10, c11, c12, c13, c14, c15, c16, c17, c18, fun h => ⟨(c19 h).1, (c19 h).2.1, (c19 h).2.2.alloc _⟩, fun _ => ⟨(by first | rfl | trivial), cB.size, by rw [if_neg hn]; exact Blk.new w' _ _⟩, fun h => ⟨(c21 h).1, (c21 h).2.1, (c21 h).2.2.alloc _⟩, fun h _ => Nat.ne_of_lt (c19 h).2.2.lt, d19_21, fun _ h => Nat.ne_of_gt (c21 h).2.2.lt, s22, fun _ => (by first | rfl | trivial), s24⟩
      · intro f a' w' hf hpre hJ K hK
        simp only [Nat.reduceAdd] at hf hK
        have HK := Lib.hid hK
        clear hK
        clear hpre
        obtain ⟨x40, x41, x42, x43, x44, x45, x46, x47, x48, x49, x50, x51, x52, x53, x54, x55, x56, x57, x58, x6, x7, x8, g6, g7, g8, hx, cB, c0, c1, c2, c3, c4, c5, c6, c7, c8, c9, c10, c11, c12, c13, c14, c15, c16, c17, c18, c19, c20, c21, d19_20, d19_21, d20_21, s22, s23, s24⟩ := hJ
        subst hx
        have hn : ¬ f 24 = true := fun h => by simp [s24 h] at hf
        go_simp
        refine HK.out _ _ (fun f' h1 h2 => ⟨x40, x41, x42, x43, x44, x45, x46, x47, x48, x49, x50, x51, x52, x53, x54, x55, x56, x57, x58, x6, x7, (.pointer (some ⟨w'.heap.size, 0, none⟩)), g6, g7, w'.heap.size, (by simp only [Act.put, List.setIfInBounds_toArray, List.set_cons_zero, List.set_cons_succ]), ?_⟩)
        have e0 := h2 0 (by decide)
        have e1 := h2 1 (by decide)
        have e2 := h2 2 (by decide)
        have e3 := h2 3 (by decide)
        have e4 := h2 4 (by decide)
        have e5 := h2 5 (by decide)
        have e6 := h2 6 (by decide)
        have e7 := h2 7 (by decide)
        have e8 := h2 8 (by decide)
        have e9 := h2 9 (by decide)
        have e10 := h2 10 (by decide)
        have e11 := h2 11 (by decide)
        have e12 := h2 12 (by decide)
        have e13 := h2 13 (by decide)
        have e14 := h2 14 (by decide)
        have e15 := h2 15 (by decide)
        have e16 := h2 16 (by decide)
        have e17 := h2 17 (by decide)
        have e18 := h2 18 (by decide)
        have e19 := h2 19 (by decide)
        have e20 := h2 20 (by decide)
        have e22 := h2 22 (by decide)
        have e23 := h2 23 (by decide)
        have e24 := h2 24 (by decide)
        simp only [HG, h1, e0, e1, e2, e3, e4, e5, e6, e7, e8, e9, e10, e11, e12, e13, e14, e15, e16, e17, e18, e19, e20, e22, e23, e24]
        exact ⟨below_al cB _, c0, c1, c2, c3, c4, c5, c6, c7, c8, c9, c10, c11, c12, c13, c14, c15, c16, c17, c18, fun h => ⟨(c19 h).1, (c19 h).2.1, (c19 h).2.2.alloc _⟩, fun h => ⟨(c20 h).1, (c20 h).2.1, (c20 h).2.2.alloc _⟩, fun _ => ⟨(by first | rfl | trivial), cB.size, by rw [if_neg hn]; exact Blk.new w' _ _⟩, d19_20, fun h _ => Nat.ne_of_lt (c19 h).2.2.lt, fun h _ => Nat.ne_of_lt (c20 h).2.2.lt, s22, s23, fun _ => (by first | rfl | trivial)⟩
      · intro f a' w' hf hpre hJ K hK
        simp only [Nat.reduceAdd] at hf hK
        have HK := Lib.hid hK
        clear hK
        simp [Region.binds] at hpre
        have hp19 : f 19 = true := (by first | exact hpre | exact hpre.1 | exact hpre.2.1 | exact hpre.2.2.1 | exact hpre.2 | exact hpre.2.2 | exact hpre.2.2.2.1)
        have hp6 : f 6 = true := (by first | exact hpre | exact hpre.1 | exact hpre.2.1 | exact hpre.2.2.1 | exact hpre.2 | exact hpre.2.2 | exact hpre.2.2.2.1)
        clear hpre
        obtain ⟨x40, x41, x42, x43, x44, x45, x46, x47, x48, x49, x50, x51, x52, x53, x54, x55, x56, x57, x58, x6, x7, x8, g6, g7, g8, hx, cB, c0, c1, c2, c3, c4, c5, c6, c7, c8, c9, c10, c11, c12, c13, c14, c15, c16, c17, c18, c19, c20, c21, d19_20, d19_21, d20_21, s22, s23, s24⟩ := hJ
        subst hx
        have ee := (c19 hp19).1
        have l19 := (c19 hp19).2.1
        have B19 := (c19 hp19).2.2
        subst ee
        have HP19 := Lib.hid hp19
        clear hp19
        have ee := c6 hp6
        subst ee
        clear hp6
        have hn : ¬ f 22 = true := (by simp [hf])
        rw [if_neg hn] at B19
        have y0 := B19.cell 0
        have z0 := B19.frozen 0
        have y1 := B19.cell 1
        have z1 := B19.frozen 1
        simp only [List.getElem?_cons_zero, List.getElem?_cons_succ] at y0 y1
        go_simp
        refine HK.out _ _ (fun f' h1 h2 => ⟨x40, x41, x42, x43, x44, x45, (.agg #[.int .u16 (m1 : Int), .int .u16 (x1 : Int)]), x47, x48, x49, x50, x51, x52, x53, x54, x55, x56, x57, x58, (.pointer (some ⟨g6, 0, none⟩)), x7, x8, g6, g7, g8, (by simp only [Act.put, List.setIfInBounds_toArray, List.set_cons_zero, List.set_cons_succ]), ?_⟩)
        have e0 := h2 0 (by decide)
        have e1 := h2 1 (by decide)
        have e2 := h2 2 (by decide)
        have e3 := h2 3 (by decide)
        have e4 := h2 4 (by decide)
        have e5 := h2 5 (by decide)
        have e6 := h2 6 (by decide)
        have e7 := h2 7 (by decide)
        have e8 := h2 8 (by decide)
        have e9 := h2 9 (by decide)
        have e10 := h2 10 (by decide)
        have e11 := h2 11 (by decide)
        have e12 := h2 12 (by decide)
        have e13 := h2 13 (by decide)
        have e14 := h2 14 (by decide)
        have e15 := h2 15 (by decide)
        have e16 := h2 16 (by decide)
        have e17 := h2 17 (by decide)
        have e18 := h2 18 (by decide)
        have e19 := h2 19 (by decide)
        have e20 := h2 20 (by decide)
        have e21 := h2 21 (by decide)
        have e23 := h2 23 (by decide)
        have e24 := h2 24 (by decide)
        simp only [HG, h1, e0, e1, e2, e3, e4, e5, e6, e7, e8, e9, e10, e11, e12, e13, e14, e15, e16, e17, e18, e19, e20, e21, e23, e24]
        exact ⟨(cB.setCell l19 _).setCell l19 _, c0, c1, c2, c3, c4, c5, fun _ => (by first | rfl | trivial), c7, c8, c9, c10, c11, c12, c13, c14, c15, c16, c17, c18, fun _ => ⟨(by first | rfl | trivial), l19, by rw [if_pos trivial]; exact (B19.set_ 0 _).set_ 1 _⟩, fun h => ⟨(c20 h).1, (c20 h).2.1, (((c20 h).2.2).far (p := ⟨g6, 0, none⟩) (Ne.symm (d19_20 (HP19.out) h)) _).far (p := ⟨g6, 1, none⟩) (Ne.symm (d19_20 (HP19.out) h)) _⟩, fun h => ⟨(c21 h).1, (c21 h).2.1, (((c21 h).2.2).far (p := ⟨g6, 0, none⟩) (Ne.symm (d19_21 (HP19.out) h)) _).far (p := ⟨g6, 1, none⟩) (Ne.symm (d19_21 (HP19.out) h)) _⟩, d19_20, d19_21, d20_21, fun _ => HP19.out, s23, s24⟩
      · intro f a' w' hf hpre hJ K hK
        simp only [Nat.reduceAdd] at hf hK
        have HK := Lib.hid hK
        clear hK
        simp [Region.binds] at hpre
        have hp20 : f 20 = true := (by first | exact hpre | exact hpre.1 | exact hpre.2.1 | exact hpre.2.2.1 | exact hpre.2 | exact hpre.2.2 | exact hpre.2.2.2.1)
        have hp12 : f 12 = true := (by first | exact hpre | exact hpre.1 | exact hpre.2.1 | exact hpre.2.2.1 | exact hpre.2 | exact hpre.2.2 | exact hpre.2.2.2.1)
        clear hpre
        obtain ⟨x40, x41, x42, x43, x44, x45, x46, x47, x48, x49, x50, x51, x52, x53, x54, x55, x56, x57, x58, x6, x7, x8, g6, g7, g8, hx, cB, c0, c1, c2, c3, c4, c5, c6, c7, c8, c9, c10, c11, c12, c13, c14, c15, c16, c17, c18, c19, c20, c21, d19_20, d19_21, d20_21, s22, s23, s24⟩ := hJ
        subst hx
        have ee := (c20 hp20).1
        have l20 := (c20 hp20).2.1
        have B20 := (c20 hp20).2.2
        subst ee
        have HP20 := Lib.hid hp20
        clear hp20
        have ee := c12 hp12
        subst ee
        clear hp12
        have hn : ¬ f 23 = true := (by simp [hf])
        rw [if_neg hn] at B20
        have y0 := B20.cell 0
        have z0 := B20.frozen 0
        have y1 := B20.cell 1
        have z1 := B20.frozen 1
        simp only [List.getElem?_cons_zero, List.getElem?_cons_succ] at y0 y1
        go_simp
        refine HK.out _ _ (fun f' h1 h2 => ⟨x40, x41, x42, x43, x44, x45, x46, x47, x48, x49, x50, x51, (.agg #[.int .u16 (m2 : Int), .int .u16 (x2 : Int)]), x53, x54, x55, x56, x57, x58, x6, (.pointer (some ⟨g7, 0, none⟩)), x8, g6, g7, g8, (by simp only [Act.put, List.setIfInBounds_toArray, List.set_cons_zero, List.set_cons_succ]), ?_⟩)
        have e0 := h2 0 (by decide)
        have e1 := h2 1 (by decide)
        have e2 := h2 2 (by decide)
        have e3 := h2 3 (by decide)
        have e4 := h2 4 (by decide)
        have e5 := h2 5 (by decide)
        have e6 := h2 6 (by decide)
        have e7 := h2 7 (by decide)
        have e8 := h2 8 (by decide)
        have e9 := h2 9 (by decide)
        have e10 := h2 10 (by decide)
        have e11 := h2 11 (by decide)
        have e12 := h2 12 (by decide)
        have e13 := h2 13 (by decide)
        have e14 := h2 14 (by decide)
        have e15 := h2 15 (by decide)
        have e16 := h2 16 (by decide)
        have e17 := h2 17 (by decide)
        have e18 := h2 18 (by decide)
        have e19 := h2 19 (by decide)
        have e20 := h2 20 (by decide)
        have e21 := h2 21 (by decide)
        have e22 := h2 22 (by decide)
        have e24 := h2 24 (by decide)
        simp only [HG, h1, e0, e1, e2, e3, e4, e5, e6, e7, e8, e9, e10, e11, e12, e13, e14, e15, e16, e17, e18, e19, e20, e21, e22, e24]
        exact ⟨(cB.setCell l20 _).setCell l20 _, c0, c1, c2, c3, c4, c5, c6, c7, c8, c9, c10, c11, fun _ => (by first | rfl | trivial), c13, c14, c15, c16, c17, c18, fun h => ⟨(c19 h).1, (c19 h).2.1, (((c19 h).2.2).far (p := ⟨g7, 0, none⟩) (d19_20 h (HP20.out)) _).far (p := ⟨g7, 1, none⟩) (d19_20 h (HP20.out)) _⟩, fun _ => ⟨(by first | rfl | trivial), l20, by rw [if_pos trivial]; exact (B20.set_ 0 _).set_ 1 _⟩, fun h => ⟨(c21 h).1, (c21 h).2.1, (((c21 h).2.2).far (p := ⟨g7, 0, none⟩) (Ne.symm (d20_21 (HP20.out) h)) _).far (p := ⟨g7, 1, none⟩) (Ne.symm (d20_21 (HP20.out) h)) _⟩, d19_20, d19_21, d20_21, s22, fun _ => HP20.out, s24⟩
      · intro f a' w' hf hpre hJ K hK
        simp only [Nat.reduceAdd] at hf hK
        have HK := Lib.hid hK
        clear hK
        simp [Region.binds] at hpre
        have hp21 : f 21 = true := (by first | exact hpre | exact hpre.1 | exact hpre.2.1 | exact hpre.2.2.1 | exact hpre.2 | exact hpre.2.2 | exact hpre.2.2.2.1)
        have hp18 : f 18 = true := (by first | exact hpre | exact hpre.1 | exact hpre.2.1 | exact hpre.2.2.1 | exact hpre.2 | exact hpre.2.2 | exact hpre.2.2.2.1)
        clear hpre
        obtain ⟨x40, x41, x42, x43, x44, x45, x46, x47, x48, x49, x50, x51, x52, x53, x54, x55, x56, x57, x58, x6, x7, x8, g6, g7, g8, hx, cB, c0, c1, c2, c3, c4, c5, c6, c7, c8, c9, c10, c11, c12, c13, c14, c15, c16, c17, c18, c19, c20, c21, d19_20, d19_21, d20_21, s22, s23, s24⟩ := hJ
        subst hx
        have ee := (c21 hp21).1
        have l21 := (c21 hp21).2.1
        have B21 := (c21 hp21).2.2
        subst ee
        have HP21 := Lib.hid hp21
        clear hp21
        have ee := c18 hp18
        subst ee
        clear hp18
        have hn : ¬ f 24 = true := (by simp [hf])
        rw [if_neg hn] at B21
        have y0 := B21.cell 0
        have z0 := B21.frozen 0
        have y1 := B21.cell 1
        have z1 := B21.frozen 1
        simp only [List.getElem?_cons_zero, List.getElem?_cons_succ] at y0 y1
        go_simp
        refine HK.out _ _ (fun f' h1 h2 => ⟨x40, x41, x42, x43, x44, x45, x46, x47, x48, x49, x50, x51, x52, x53, x54, x55, x56, x57, (.agg #[.int .u16 (m3 : Int), .int .u16 (q : Int)]), x6, x7, (.pointer (some ⟨g8, 0, none⟩)), g6, g7, g8, (by simp only [Act.put, List.setIfInBounds_toArray, List.set_cons_zero, List.set_cons_succ]), ?_⟩)
        have e0 := h2 0 (by decide)
        have e1 := h2 1 (by decide)
        have e2 := h2 2 (by decide)
        have e3 := h2 3 (by decide)
        have e4 := h2 4 (by decide)
        have e5 := h2 5 (by decide)
        have e6 := h2 6 (by decide)
        have e7 := h2 7 (by decide)
        have e8 := h2 8 (by decide)
        have e9 := h2 9 (by decide)
        have e10 := h2 10 (by decide)
        have e11 := h2 11 (by decide)
        have e12 := h2 12 (by decide)
        have e13 := h2 13 (by decide)
        have e14 := h2 14 (by decide)
        have e15 := h2 15 (by decide)
        have e16 := h2 16 (by decide)
        have e17 := h2 17 (by decide)
        have e18 := h2 18 (by decide)
        have e19 := h2 19 (by decide)
        have e20 := h2 20 (by decide)
        have e21 := h2 21 (by decide)
        have e22 := h2 22 (by decide)
        have e23 := h2 23 (by decide)
        simp only [HG, h1, e0, e1, e2, e3, e4, e5, e6, e7, e8, e9, e10, e11, e12, e13, e14, e15, e16, e17, e18, e19, e20, e21, e22, e23]
        exact ⟨(cB.setCell l21 _).setCell l21 _, c0, c1, c2, c3, c4, c5, c6, c7, c8, c9, c10, c11, c12, c13, c14, c15, c16, c17, fun _ => (by first | rfl | trivial), fun h => ⟨(c19 h).1, (c19 h).2.1, (((c19 h).2.2).far (p := ⟨g8, 0, none⟩) (d19_21 h (HP21.out)) _).far (p := ⟨g8, 1, none⟩) (d19_21 h (HP21.out)) _⟩, fun h => ⟨(c20 h).1, (c20 h).2.1, (((c20 h).2.2).far (p := ⟨g8, 0, none⟩) (d20_21 h (HP21.out)) _).far (p := ⟨g8, 1, none⟩) (d20_21 h (HP21.out)) _⟩, fun _ => ⟨(by first | rfl | trivial), l21, by rw [if_pos trivial]; exact (B21.set_ 0 _).set_ 1 _⟩, d19_20, d19_21, d20_21, s22, s23, fun _ => HP21.out⟩
    case refine_3 =>
      intro f a' w' hall hJ
      obtain ⟨x40, x41, x42, x43, x44, x45, x46, x47, x48, x49, x50, x51, x52, x53, x54, x55, x56, x57, x58, x6, x7, x8, g6, g7, g8, hx, cB, c0, c1, c2, c3, c4, c5, c6, c7, c8, c9, c10, c11, c12, c13, c14, c15, c16, c17, c18, c19, c20, c21, d19_20, d19_21, d20_21, s22, s23, s24⟩ := hJ
      subst hx
      have hall : ∀ k, k < 25 → f k = true := hall
      have ee := c0 (hall 0 (by decide))
      subst ee
      have ee := c1 (hall 1 (by decide))
      subst ee
      have ee := c2 (hall 2 (by decide))
      subst ee
      have ee := c3 (hall 3 (by decide))
      subst ee
      have ee := c4 (hall 4 (by decide))
      subst ee
      have ee := c5 (hall 5 (by decide))
      subst ee
      have ee := c6 (hall 6 (by decide))
      subst ee
      have ee := c7 (hall 7 (by decide))
      subst ee
      have ee := c8 (hall 8 (by decide))
      subst ee
      have ee := c9 (hall 9 (by decide))
      subst ee
      have ee := c10 (hall 10 (by decide))
      subst ee
      have ee := c11 (hall 11 (by decide))
      subst ee
      have ee := c12 (hall 12 (by decide))
      subst ee
      have ee := c13 (hall 13 (by decide))
      subst ee
      have ee := c14 (hall 14 (by decide))
      subst ee
      have ee := c15 (hall 15 (by decide))
      subst ee
      have ee := c16 (hall 16 (by decide))
      subst ee
      have ee := c17 (hall 17 (by decide))
      subst ee
      have ee := c18 (hall 18 (by decide))
      subst ee
      have ee := (c19 (hall 19 (by decide))).1
      have l19 := (c19 (hall 19 (by decide))).2.1
      have B19 := (c19 (hall 19 (by decide))).2.2
      subst ee
      rw [if_pos (hall 22 (by decide))] at B19
      have ee := (c20 (hall 20 (by decide))).1
      have l20 := (c20 (hall 20 (by decide))).2.1
      have B20 := (c20 (hall 20 (by decide))).2.2
      subst ee
      rw [if_pos (hall 23 (by decide))] at B20
      have ee := (c21 (hall 21 (by decide))).1
      have l21 := (c21 (hall 21 (by decide))).2.1
      have B21 := (c21 (hall 21 (by decide))).2.2
      subst ee
      rw [if_pos (hall 24 (by decide))] at B21
      have n19_20 := d19_20 (hall 19 (by decide)) (hall 20 (by decide))
      have n19_21 := d19_21 (hall 19 (by decide)) (hall 21 (by decide))
      have n20_21 := d20_21 (hall 20 (by decide)) (hall 21 (by decide))
      clear hall c0 c1 c2 c3 c4 c5 c6 c7 c8 c9 c10 c11 c12 c13 c14 c15 c16 c17 c18 c19 c20 c21 d19_20 d19_21 d20_21 s22 s23 s24
      simp only [Act.put, List.setIfInBounds_toArray, List.set_cons_zero, List.set_cons_succ]
      go_wp2_with fail
      go_meet
      exact ⟨g6, g7, g8, rfl, rfl, rfl, B19, B20, B21, cB⟩
  case rest =>
    obtain ⟨g6, g7, g8, rfl, rfl, rfl, B6, B7, B8, cB⟩ := hcut.out
    have hbwc := below_call hbwa cB
    replace h9 := cell_keep cB h9
    replace HRL := Lib.hid (HRL.out.below cB)
    replace hR2 := hR2.below cB
    clear hcut cB hX2 hbwa
    have hm1 : m1 ≤ 65535 := by rw [← HM1.out]; have := b2_lt l 16; omega
    have hm2 : m2 ≤ 65535 := by rw [← HM2.out]; have := b2_lt l 18; omega
    have hm3 : m3 ≤ 65535 := by rw [← HM3.out]; have := b2_lt l 22; omega
    have hx1 : x1 ≤ 65535 := by rw [← HX1.out]; omega
    have hx2 : x2 ≤ 65535 := by rw [← HX2'.out]; omega
    have HW4 := Lib.hid (show m1 ≤ 65535 ∧ x1 ≤ 65535 ∧ m2 ≤ 65535 ∧ x2 ≤ 65535 from ⟨hm1, hx1, hm2, hx2⟩)
    have HW6 := Lib.hid (show m1 ≤ 65535 ∧ x1 ≤ 65535 ∧ m2 ≤ 65535 ∧ x2 ≤ 65535 ∧ m3 ≤ 65535 ∧ q ≤ 65535 from ⟨hm1, hx1, hm2, hx2, hm3, hq⟩)
    obtain ⟨ip0, HI0⟩ : ∃ x, Hid (b2 l 10 = x) := ⟨_, rfl⟩
    obtain ⟨ip, HIP⟩ : ∃ x, Hid (b2 wq 10 = x) := ⟨_, rfl⟩
    have HIL : Hid (ip0 ≤ 65535) := by show _ ≤ _; rw [← HI0.out]; have := b2_lt l 10; omega
    have HIU : Hid (upd ip0 [(m1, x1), (m2, x2)] = ip) := by
      show _ = _
      rw [← HI0.out, ← HIP.out, ← HM1.out, ← HM2.out, ← HX1.out, ← HX2'.out]
      exact HDW.out.ip
    clear hm1 hm2 hm3 hx1 hx2
    generalize hwx : wc = wa at *
    rcases HSH.out with hs | ⟨hs, h40⟩
    · rw [HB9.out] at hs
      subst hs
      have HPR : Hid (p.fl.proto = 17) := by show _ = _; rw [← HPB.out, HB9.out]; rfl
      have HAT : Hid (ownAt p = 26) := by show _ = _; unfold ownAt; rw [HPR.out]; rfl
      obtain ⟨ow0, HO0⟩ : ∃ x, Hid (b2 l 26 = x) := ⟨_, rfl⟩
      obtain ⟨ow, HOU⟩ : ∃ x, Hid (upd ow0 [(m1, x1), (m2, x2), (m3, q)] = x) := ⟨_, rfl⟩
      have HOL : Hid (ow0 ≤ 65535) := by show _ ≤ _; rw [← HO0.out]; have := b2_lt l 26; omega
      have HFN : Hid ((if ow = 0 ∧ p.fl.proto = 17 then 65535 else ow) = b2 wq 26) := by
        have h := HDW.out.own
        rw [HAT.out] at h
        show _ = _
        rw [← h, ← HOU.out, ← HO0.out, ← HM1.out, ← HM2.out, ← HM3.out, ← HX1.out, ← HX2'.out]
        rfl
      go_upto_region 13 with (fail)
      go_cut [10] (fun v10 wx => v10 = .int .u16 (ip : Int) ∧ Hid (Below wa.heap.size wa wx))
      case first =>
        refine wp_region_inv_at (fun a0 d_ a' w' => ∃ (x63 x64 x65 x66 x67 x68 x10 : Value) (g67 : Nat), a' = (((((((a0.put (some 63) x63).put (some 64) x64).put (some 65) x65).put (some 66) x66).put (some 67) x67).put (some 68) x68).put (some 10) x10) ∧ HJ ad n c ip0 ip m1 m2 x1 x2 wa d_ w' x63 x64 x65 x66 x67 x68 x10 g67) (by kernel_rfl) (by kernel_rfl) ?_ ?_ ?_
        case refine_1 =>
          exact ⟨u63, u64, u65, u66, u67, u68, undef, 0, (by simp only [Act.put, List.setIfInBounds_toArray, List.set_cons_zero, List.set_cons_succ]), Below.drew (Below.refl _ wa), by simp, by simp, by simp, by simp, by simp, by simp, by simp⟩
        case refine_2 =>
          simp only [StepsInv]
          refine ⟨?_, ?_, ?_, ?_, ?_, ?_, ?_, trivial⟩
          · intro f a' w' hf hpre hJ K hK
            simp only [Nat.reduceAdd] at hf hK
            have HK := Lib.hid hK
            clear hK
            clear hpre
            obtain ⟨x63, x64, x65, x66, x67, x68, x10, g67, hx, cB, c0, c1, c2, c3, c4, c5, c6⟩ := hJ
            subst hx
            go_simp
            refine HK.out _ _ (fun f' h1 h2 => ⟨(.slice (some ad) n c), x64, x65, x66, x67, x68, x10, g67, (by simp only [Act.put, List.setIfInBounds_toArray, List.set_cons_zero, List.set_cons_succ]), ?_⟩)
            have e1 := h2 1 (by decide)
            have e2 := h2 2 (by decide)
            have e3 := h2 3 (by decide)
            have e4 := h2 4 (by decide)
            have e5 := h2 5 (by decide)
            have e6 := h2 6 (by decide)
            simp only [HJ, h1, e1, e2, e3, e4, e5, e6]
            exact ⟨cB, fun _ => (by first | rfl | trivial), c1, c2, c3, c4, c5, c6⟩
          · intro f a' w' hf hpre hJ K hK
            simp only [Nat.reduceAdd] at hf hK
            have HK := Lib.hid hK
            clear hK
            simp [Region.binds] at hpre
            have hp0 : f 0 = true := (by first | exact hpre | exact hpre.1 | exact hpre.2.1 | exact hpre.2.2.1 | exact hpre.2 | exact hpre.2.2 | exact hpre.2.2.2.1)
            clear hpre
            obtain ⟨x63, x64, x65, x66, x67, x68, x10, g67, hx, cB, c0, c1, c2, c3, c4, c5, c6⟩ := hJ
            subst hx
            have ee := c0 hp0
            subst ee
            clear hp0
            have hRB := HRL.out.below cB
            go_simp
            (with_reducible refine (lword_any l (some ad) n c 10 10 ip0 _ hRB HN.out (by omega) (by omega) rfl HI0.out).mono ?_); rintro e w9 ⟨rfl, k9, rfl⟩; dsimp only; have hb9 := bel_dn0 w' k9
            refine HK.out _ _ (fun f' h1 h2 => ⟨(.slice (some ad) n c), (.int .u16 (ip0 : Int)), x65, x66, x67, x68, x10, g67, (by simp only [Act.put, List.setIfInBounds_toArray, List.set_cons_zero, List.set_cons_succ]), ?_⟩)
            have e0 := h2 0 (by decide)
            have e2 := h2 2 (by decide)
            have e3 := h2 3 (by decide)
            have e4 := h2 4 (by decide)
            have e5 := h2 5 (by decide)
            have e6 := h2 6 (by decide)
            simp only [HJ, h1, e0, e2, e3, e4, e5, e6]
            exact ⟨below_call cB hb9, fun _ => (by first | rfl | trivial), fun _ => (by first | rfl | trivial), c2, c3, fun h => ⟨(c4 h).1, (c4 h).2.1, (c4 h).2.2.kept hb9⟩, c5, c6⟩
          · intro f a' w' hf hpre hJ K hK
            simp only [Nat.reduceAdd] at hf hK
            have HK := Lib.hid hK
            clear hK
            clear hpre
            obtain ⟨x63, x64, x65, x66, x67, x68, x10, g67, hx, cB, c0, c1, c2, c3, c4, c5, c6⟩ := hJ
            subst hx
            have z0 := (B6.kept cB).cell 0; have z1 := (B6.kept cB).cell 1; simp only [List.getElem?_cons_zero, List.getElem?_cons_succ] at z0 z1
            go_simp
            refine HK.out _ _ (fun f' h1 h2 => ⟨x63, x64, (.agg #[.int .u16 (m1 : Int), .int .u16 (x1 : Int)]), x66, x67, x68, x10, g67, (by simp only [Act.put, List.setIfInBounds_toArray, List.set_cons_zero, List.set_cons_succ]), ?_⟩)
            have e0 := h2 0 (by decide)
            have e1 := h2 1 (by decide)
            have e3 := h2 3 (by decide)
            have e4 := h2 4 (by decide)
            have e5 := h2 5 (by decide)
            have e6 := h2 6 (by decide)
            simp only [HJ, h1, e0, e1, e3, e4, e5, e6]
            exact ⟨cB, c0, c1, fun _ => (by first | rfl | trivial), c3, c4, c5, c6⟩
          · intro f a' w' hf hpre hJ K hK
            simp only [Nat.reduceAdd] at hf hK
            have HK := Lib.hid hK
            clear hK
            clear hpre
            obtain ⟨x63, x64, x65, x66, x67, x68, x10, g67, hx, cB, c0, c1, c2, c3, c4, c5, c6⟩ := hJ
            subst hx
            have z0 := (B7.kept cB).cell 0; have z1 := (B7.kept cB).cell 1; simp only [List.getElem?_cons_zero, List.getElem?_cons_succ] at z0 z1
            go_simp
            refine HK.out _ _ (fun f' h1 h2 => ⟨x63, x64, x65, (.agg #[.int .u16 (m2 : Int), .int .u16 (x2 : Int)]), x67, x68, x10, g67, (by simp only [Act.put, List.setIfInBounds_toArray, List.set_cons_zero, List.set_cons_succ]), ?_⟩)
            have e0 := h2 0 (by decide)
            have e1 := h2 1 (by decide)
            have e2 := h2 2 (by decide)
            have e4 := h2 4 (by decide)
            have e5 := h2 5 (by decide)
            have e6 := h2 6 (by decide)
            simp only [HJ, h1, e0, e1, e2, e4, e5, e6]
            exact ⟨cB, c0, c1, c2, fun _ => (by first | rfl | trivial), c4, c5, c6⟩
          · intro f a' w' hf hpre hJ K hK
            simp only [Nat.reduceAdd] at hf hK
            have HK := Lib.hid hK
            clear hK
            simp [Region.binds] at hpre
            have hp2 : f 2 = true := (by first | exact hpre | exact hpre.1 | exact hpre.2.1 | exact hpre.2.2.1 | exact hpre.2 | exact hpre.2.2 | exact hpre.2.2.2.1)
            have hp3 : f 3 = true := (by first | exact hpre | exact hpre.1 | exact hpre.2.1 | exact hpre.2.2.1 | exact hpre.2 | exact hpre.2.2 | exact hpre.2.2.2.1)
            clear hpre
            obtain ⟨x63, x64, x65, x66, x67, x68, x10, g67, hx, cB, c0, c1, c2, c3, c4, c5, c6⟩ := hJ
            subst hx
            have ee := c2 hp2
            subst ee
            clear hp2
            have ee := c3 hp3
            subst ee
            clear hp3
            go_simp
            refine HK.out _ _ (fun f' h1 h2 => ⟨x63, x64, (.agg #[.int .u16 (m1 : Int), .int .u16 (x1 : Int)]), (.agg #[.int .u16 (m2 : Int), .int .u16 (x2 : Int)]), (.slice (some ⟨w'.heap.size, 0, none⟩) 2 2), x68, x10, w'.heap.size, (by simp only [Act.put, List.setIfInBounds_toArray, List.set_cons_zero, List.set_cons_succ]), ?_⟩)
            have e0 := h2 0 (by decide)
            have e1 := h2 1 (by decide)
            have e2 := h2 2 (by decide)
            have e3 := h2 3 (by decide)
            have e5 := h2 5 (by decide)
            have e6 := h2 6 (by decide)
            simp only [HJ, h1, e0, e1, e2, e3, e5, e6]
            exact ⟨below_al cB _, c0, c1, fun _ => (by first | rfl | trivial), fun _ => (by first | rfl | trivial), fun _ => ⟨(by first | rfl | trivial), cB.size, by exact Blk.new w' _ _⟩, c5, c6⟩
          · intro f a' w' hf hpre hJ K hK
            simp only [Nat.reduceAdd] at hf hK
            have HK := Lib.hid hK
            clear hK
            simp [Region.binds] at hpre
            have hp1 : f 1 = true := (by first | exact hpre | exact hpre.1 | exact hpre.2.1 | exact hpre.2.2.1 | exact hpre.2 | exact hpre.2.2 | exact hpre.2.2.2.1)
            have hp4 : f 4 = true := (by first | exact hpre | exact hpre.1 | exact hpre.2.1 | exact hpre.2.2.1 | exact hpre.2 | exact hpre.2.2 | exact hpre.2.2.2.1)
            clear hpre
            obtain ⟨x63, x64, x65, x66, x67, x68, x10, g67, hx, cB, c0, c1, c2, c3, c4, c5, c6⟩ := hJ
            subst hx
            have ee := c1 hp1
            subst ee
            clear hp1
            have ee := (c4 hp4).1
            have l4 := (c4 hp4).2.1
            have B4 := (c4 hp4).2.2
            subst ee
            have HP4 := Lib.hid hp4
            clear hp4
            go_simp
            (with_reducible refine (update2_n ip0 ip m1 x1 m2 x2 g67 _ _ HIL.out B4 HW4.out HIU.out).mono ?_); rintro e w9 ⟨rfl, hb9⟩; dsimp only
            refine HK.out _ _ (fun f' h1 h2 => ⟨x63, (.int .u16 (ip0 : Int)), x65, x66, (.slice (some ⟨g67, 0, none⟩) 2 2), (.int .u16 (ip : Int)), x10, g67, (by simp only [Act.put, List.setIfInBounds_toArray, List.set_cons_zero, List.set_cons_succ]), ?_⟩)
            have e0 := h2 0 (by decide)
            have e1 := h2 1 (by decide)
            have e2 := h2 2 (by decide)
            have e3 := h2 3 (by decide)
            have e4 := h2 4 (by decide)
            have e6 := h2 6 (by decide)
            simp only [HJ, h1, e0, e1, e2, e3, e4, e6]
            exact ⟨below_call cB hb9, c0, fun _ => (by first | rfl | trivial), c2, c3, fun _ => ⟨(by first | rfl | trivial), l4, B4.kept hb9⟩, fun _ => (by first | rfl | trivial), c6⟩
          · intro f a' w' hf hpre hJ K hK
            simp only [Nat.reduceAdd] at hf hK
            have HK := Lib.hid hK
            clear hK
            simp [Region.binds] at hpre
            have hp5 : f 5 = true := (by first | exact hpre | exact hpre.1 | exact hpre.2.1 | exact hpre.2.2.1 | exact hpre.2 | exact hpre.2.2 | exact hpre.2.2.2.1)
            clear hpre
            obtain ⟨x63, x64, x65, x66, x67, x68, x10, g67, hx, cB, c0, c1, c2, c3, c4, c5, c6⟩ := hJ
            subst hx
            have ee := c5 hp5
            subst ee
            clear hp5
            go_simp
            refine HK.out _ _ (fun f' h1 h2 => ⟨x63, x64, x65, x66, x67, (.int .u16 (ip : Int)), (.int .u16 (ip : Int)), g67, (by simp only [Act.put, List.setIfInBounds_toArray, List.set_cons_zero, List.set_cons_succ]), ?_⟩)
            have e0 := h2 0 (by decide)
            have e1 := h2 1 (by decide)
            have e2 := h2 2 (by decide)
            have e3 := h2 3 (by decide)
            have e4 := h2 4 (by decide)
            have e5 := h2 5 (by decide)
            simp only [HJ, h1, e0, e1, e2, e3, e4, e5]
            exact ⟨cB, c0, c1, c2, c3, c4, fun _ => (by first | rfl | trivial), fun _ => (by first | rfl | trivial)⟩
        case refine_3 =>
          intro f a' w' hall hJ
          obtain ⟨x63, x64, x65, x66, x67, x68, x10, g67, hx, cB, c0, c1, c2, c3, c4, c5, c6⟩ := hJ
          subst hx
          have hall : ∀ k, k < 7 → f k = true := hall
          have ee := c0 (hall 0 (by decide))
          subst ee
          have ee := c1 (hall 1 (by decide))
          subst ee
          have ee := c2 (hall 2 (by decide))
          subst ee
          have ee := c3 (hall 3 (by decide))
          subst ee
          have ee := (c4 (hall 4 (by decide))).1
          have l4 := (c4 (hall 4 (by decide))).2.1
          have B4 := (c4 (hall 4 (by decide))).2.2
          subst ee
          have ee := c5 (hall 5 (by decide))
          subst ee
          have ee := c6 (hall 6 (by decide))
          subst ee
          clear hall c0 c1 c2 c3 c4 c5 c6
          simp only [Act.put, List.setIfInBounds_toArray, List.set_cons_zero, List.set_cons_succ]
          go_wp2_with fail
          go_meet
          exact ⟨rfl, cB⟩
      case rest =>
        obtain ⟨w13, rfl⟩ : ∃ x, x = wc := ⟨_, rfl⟩
        obtain ⟨rfl, h13⟩ := hcut
        have hbw13 := below_call hbwc h13.out
        replace h9 := cell_keep h13.out h9
        replace HRL := Lib.hid (HRL.out.below h13.out)
        replace hR2 := hR2.below h13.out
        replace B6 := B6.kept h13.out
        replace B7 := B7.kept h13.out
        replace B8 := B8.kept h13.out
        go_upto_region 14 with (fail)
        go_cut [11] (fun v11 wx => v11 = .int .u16 (ow : Int) ∧ Hid (Below w13.heap.size w13 wx))
        case first =>
          refine wp_region_inv_at (fun a0 d_ a' w' => ∃ (x69 x70 x71 x72 x73 x74 x75 x76 x11 : Value) (g75 : Nat), a' = (((((((((a0.put (some 69) x69).put (some 70) x70).put (some 71) x71).put (some 72) x72).put (some 73) x73).put (some 74) x74).put (some 75) x75).put (some 76) x76).put (some 11) x11) ∧ HK_ ad n c ow0 ow m1 m2 m3 x1 x2 q 26 w13 d_ w' x69 x70 x71 x72 x73 x74 x75 x76 x11 g75) (by kernel_rfl) (by kernel_rfl) ?_ ?_ ?_
          case refine_1 =>
            exact ⟨u69, u70, u71, u72, u73, u74, u75, u76, undef, 0, (by simp only [Act.put, List.setIfInBounds_toArray, List.set_cons_zero, List.set_cons_succ]), Below.drew (Below.refl _ w13), by simp, by simp, by simp, by simp, by simp, by simp, by simp, by simp, by simp⟩
          case refine_2 =>
            simp only [StepsInv]
            refine ⟨?_, ?_, ?_, ?_, ?_, ?_, ?_, ?_, ?_, trivial⟩
            · intro f a' w' hf hpre hJ K hK
              simp only [Nat.reduceAdd] at hf hK
              have HK := Lib.hid hK
              clear hK
              clear hpre
              obtain ⟨x69, x70, x71, x72, x73, x74, x75, x76, x11, g75, hx, cB, c0, c1, c2, c3, c4, c5, c6, c7, c8⟩ := hJ
              subst hx
              go_simp
              refine HK.out _ _ (fun f' h1 h2 => ⟨(.slice (some ad) n c), x70, x71, x72, x73, x74, x75, x76, x11, g75, (by simp only [Act.put, List.setIfInBounds_toArray, List.set_cons_zero, List.set_cons_succ]), ?_⟩)
              have e1 := h2 1 (by decide)
              have e2 := h2 2 (by decide)
              have e3 := h2 3 (by decide)
              have e4 := h2 4 (by decide)
              have e5 := h2 5 (by decide)
              have e6 := h2 6 (by decide)
              have e7 := h2 7 (by decide)
              have e8 := h2 8 (by decide)
              simp only [HK_, h1, e1, e2, e3, e4, e5, e6, e7, e8]
              exact ⟨cB, fun _ => (by first | rfl | trivial), c1, c2, c3, c4, c5, c6, c7, c8⟩
            · intro f a' w' hf hpre hJ K hK
              simp only [Nat.reduceAdd] at hf hK
              have HK := Lib.hid hK
              clear hK
              clear hpre
              obtain ⟨x69, x70, x71, x72, x73, x74, x75, x76, x11, g75, hx, cB, c0, c1, c2, c3, c4, c5, c6, c7, c8⟩ := hJ
              subst hx
              go_simp
              refine HK.out _ _ (fun f' h1 h2 => ⟨x69, (.int .i64 26), x71, x72, x73, x74, x75, x76, x11, g75, (by simp only [Act.put, List.setIfInBounds_toArray, List.set_cons_zero, List.set_cons_succ]), ?_⟩)
              have e0 := h2 0 (by decide)
              have e2 := h2 2 (by decide)
              have e3 := h2 3 (by decide)
              have e4 := h2 4 (by decide)
              have e5 := h2 5 (by decide)
              have e6 := h2 6 (by decide)
              have e7 := h2 7 (by decide)
              have e8 := h2 8 (by decide)
              simp only [HK_, h1, e0, e2, e3, e4, e5, e6, e7, e8]
              exact ⟨cB, c0, fun _ => (by first | rfl | trivial), c2, c3, c4, c5, c6, c7, c8⟩
            · intro f a' w' hf hpre hJ K hK
              simp only [Nat.reduceAdd] at hf hK
              have HK := Lib.hid hK
              clear hK
              simp [Region.binds] at hpre
              have hp0 : f 0 = true := (by first | exact hpre | exact hpre.1 | exact hpre.2.1 | exact hpre.2.2.1 | exact hpre.2 | exact hpre.2.2 | exact hpre.2.2.2.1)
              have hp1 : f 1 = true := (by first | exact hpre | exact hpre.1 | exact hpre.2.1 | exact hpre.2.2.1 | exact hpre.2 | exact hpre.2.2 | exact hpre.2.2.2.1)
              clear hpre
              obtain ⟨x69, x70, x71, x72, x73, x74, x75, x76, x11, g75, hx, cB, c0, c1, c2, c3, c4, c5, c6, c7, c8⟩ := hJ
              subst hx
              have ee := c0 hp0
              subst ee
              clear hp0
              have ee := c1 hp1
              subst ee
              clear hp1
              have hRB := HRL.out.below cB
              go_simp
              (with_reducible refine (lword_any l (some ad) n c 26 26 ow0 _ hRB HN.out (by omega) (by omega) rfl HO0.out).mono ?_); rintro e w9 ⟨rfl, k9, rfl⟩; dsimp only; have hb9 := bel_dn0 w' k9
              refine HK.out _ _ (fun f' h1 h2 => ⟨(.slice (some ad) n c), (.int .i64 26), (.int .u16 (ow0 : Int)), x72, x73, x74, x75, x76, x11, g75, (by simp only [Act.put, List.setIfInBounds_toArray, List.set_cons_zero, List.set_cons_succ]), ?_⟩)
              have e0 := h2 0 (by decide)
              have e1 := h2 1 (by decide)
              have e3 := h2 3 (by decide)
              have e4 := h2 4 (by decide)
              have e5 := h2 5 (by decide)
              have e6 := h2 6 (by decide)
              have e7 := h2 7 (by decide)
              have e8 := h2 8 (by decide)
              simp only [HK_, h1, e0, e1, e3, e4, e5, e6, e7, e8]
              exact ⟨below_call cB hb9, fun _ => (by first | rfl | trivial), fun _ => (by first | rfl | trivial), fun _ => (by first | rfl | trivial), c3, c4, c5, fun h => ⟨(c6 h).1, (c6 h).2.1, (c6 h).2.2.kept hb9⟩, c7, c8⟩
            · intro f a' w' hf hpre hJ K hK
              simp only [Nat.reduceAdd] at hf hK
              have HK := Lib.hid hK
              clear hK
              clear hpre
              obtain ⟨x69, x70, x71, x72, x73, x74, x75, x76, x11, g75, hx, cB, c0, c1, c2, c3, c4, c5, c6, c7, c8⟩ := hJ
              subst hx
              have z0 := (B6.kept cB).cell 0; have z1 := (B6.kept cB).cell 1; simp only [List.getElem?_cons_zero, List.getElem?_cons_succ] at z0 z1
              go_simp
              refine HK.out _ _ (fun f' h1 h2 => ⟨x69, x70, x71, (.agg #[.int .u16 (m1 : Int), .int .u16 (x1 : Int)]), x73, x74, x75, x76, x11, g75, (by simp only [Act.put, List.setIfInBounds_toArray, List.set_cons_zero, List.set_cons_succ]), ?_⟩)
              have e0 := h2 0 (by decide)
              have e1 := h2 1 (by decide)
              have e2 := h2 2 (by decide)
              have e4 := h2 4 (by decide)
              have e5 := h2 5 (by decide)
              have e6 := h2 6 (by decide)
              have e7 := h2 7 (by decide)
              have e8 := h2 8 (by decide)
              simp only [HK_, h1, e0, e1, e2, e4, e5, e6, e7, e8]
              exact ⟨cB, c0, c1, c2, fun _ => (by first | rfl | trivial), c4, c5, c6, c7, c8⟩
            · intro f a' w' hf hpre hJ K hK
              simp only [Nat.reduceAdd] at hf hK
              have HK := Lib.hid hK
              clear hK
              clear hpre
              obtain ⟨x69, x70, x71, x72, x73, x74, x75, x76, x11, g75, hx, cB, c0, c1, c2, c3, c4, c5, c6, c7, c8⟩ := hJ
              subst hx
              have z0 := (B7.kept cB).cell 0; have z1 := (B7.kept cB).cell 1; simp only [List.getElem?_cons_zero, List.getElem?_cons_succ] at z0 z1
              go_simp
              refine HK.out _ _ (fun f' h1 h2 => ⟨x69, x70, x71, x72, (.agg #[.int .u16 (m2 : Int), .int .u16 (x2 : Int)]), x74, x75, x76, x11, g75, (by simp only [Act.put, List.setIfInBounds_toArray, List.set_cons_zero, List.set_cons_succ]), ?_⟩)
              have e0 := h2 0 (by decide)
              have e1 := h2 1 (by decide)
              have e2 := h2 2 (by decide)
              have e3 := h2 3 (by decide)
              have e5 := h2 5 (by decide)
              have e6 := h2 6 (by decide)
              have e7 := h2 7 (by decide)
              have e8 := h2 8 (by decide)
              simp only [HK_, h1, e0, e1, e2, e3, e5, e6, e7, e8]
              exact ⟨cB, c0, c1, c2, c3, fun _ => (by first | rfl | trivial), c5, c6, c7, c8⟩
            · intro f a' w' hf hpre hJ K hK
              simp only [Nat.reduceAdd] at hf hK
              have HK := Lib.hid hK
              clear hK
              clear hpre
              obtain ⟨x69, x70, x71, x72, x73, x74, x75, x76, x11, g75, hx, cB, c0, c1, c2, c3, c4, c5, c6, c7, c8⟩ := hJ
              subst hx
              have z0 := (B8.kept cB).cell 0; have z1 := (B8.kept cB).cell 1; simp only [List.getElem?_cons_zero, List.getElem?_cons_succ] at z0 z1
              go_simp
              refine HK.out _ _ (fun f' h1 h2 => ⟨x69, x70, x71, x72, x73, (.agg #[.int .u16 (m3 : Int), .int .u16 (q : Int)]), x75, x76, x11, g75, (by simp only [Act.put, List.setIfInBounds_toArray, List.set_cons_zero, List.set_cons_succ]), ?_⟩)
              have e0 := h2 0 (by decide)
              have e1 := h2 1 (by decide)
              have e2 := h2 2 (by decide)
              have e3 := h2 3 (by decide)
              have e4 := h2 4 (by decide)
              have e6 := h2 6 (by decide)
              have e7 := h2 7 (by decide)
              have e8 := h2 8 (by decide)
              simp only [HK_, h1, e0, e1, e2, e3, e4, e6, e7, e8]
              exact ⟨cB, c0, c1, c2, c3, c4, fun _ => (by first | rfl | trivial), c6, c7, c8⟩
            · intro f a' w' hf hpre hJ K hK
              simp only [Nat.reduceAdd] at hf hK
              have HK := Lib.hid hK
              clear hK
              simp [Region.binds] at hpre
              have hp3 : f 3 = true := (by first | exact hpre | exact hpre.1 | exact hpre.2.1 | exact hpre.2.2.1 | exact hpre.2 | exact hpre.2.2 | exact hpre.2.2.2.1)
              have hp4 : f 4 = true := (by first | exact hpre | exact hpre.1 | exact hpre.2.1 | exact hpre.2.2.1 | exact hpre.2 | exact hpre.2.2 | exact hpre.2.2.2.1)
              have hp5 : f 5 = true := (by first | exact hpre | exact hpre.1 | exact hpre.2.1 | exact hpre.2.2.1 | exact hpre.2 | exact hpre.2.2 | exact hpre.2.2.2.1)
              clear hpre
              obtain ⟨x69, x70, x71, x72, x73, x74, x75, x76, x11, g75, hx, cB, c0, c1, c2, c3, c4, c5, c6, c7, c8⟩ := hJ
              subst hx
              have ee := c3 hp3
              subst ee
              clear hp3
              have ee := c4 hp4
              subst ee
              clear hp4
              have ee := c5 hp5
              subst ee
              clear hp5
              go_simp
              refine HK.out _ _ (fun f' h1 h2 => ⟨x69, x70, x71, (.agg #[.int .u16 (m1 : Int), .int .u16 (x1 : Int)]), (.agg #[.int .u16 (m2 : Int), .int .u16 (x2 : Int)]), (.agg #[.int .u16 (m3 : Int), .int .u16 (q : Int)]), (.slice (some ⟨w'.heap.size, 0, none⟩) 3 3), x76, x11, w'.heap.size, (by simp only [Act.put, List.setIfInBounds_toArray, List.set_cons_zero, List.set_cons_succ]), ?_⟩)
              have e0 := h2 0 (by decide)
              have e1 := h2 1 (by decide)
              have e2 := h2 2 (by decide)
              have e3 := h2 3 (by decide)
              have e4 := h2 4 (by decide)
              have e5 := h2 5 (by decide)
              have e7 := h2 7 (by decide)
              have e8 := h2 8 (by decide)
              simp only [HK_, h1, e0, e1, e2, e3, e4, e5, e7, e8]
              exact ⟨below_al cB _, c0, c1, c2, fun _ => (by first | rfl | trivial), fun _ => (by first | rfl | trivial), fun _ => (by first | rfl | trivial), fun _ => ⟨(by first | rfl | trivial), cB.size, by exact Blk.new w' _ _⟩, c7, c8⟩
            · intro f a' w' hf hpre hJ K hK
              simp only [Nat.reduceAdd] at hf hK
              have HK := Lib.hid hK
              clear hK
              simp [Region.binds] at hpre
              have hp2 : f 2 = true := (by first | exact hpre | exact hpre.1 | exact hpre.2.1 | exact hpre.2.2.1 | exact hpre.2 | exact hpre.2.2 | exact hpre.2.2.2.1)
              have hp6 : f 6 = true := (by first | exact hpre | exact hpre.1 | exact hpre.2.1 | exact hpre.2.2.1 | exact hpre.2 | exact hpre.2.2 | exact hpre.2.2.2.1)
              clear hpre
              obtain ⟨x69, x70, x71, x72, x73, x74, x75, x76, x11, g75, hx, cB, c0, c1, c2, c3, c4, c5, c6, c7, c8⟩ := hJ
              subst hx
              have ee := c2 hp2
              subst ee
              clear hp2
              have ee := (c6 hp6).1
              have l6 := (c6 hp6).2.1
              have BX := (c6 hp6).2.2
              subst ee
              have HP6 := Lib.hid hp6
              clear hp6
              go_simp
              (with_reducible refine (update3_n ow0 ow m1 x1 m2 x2 m3 q g75 _ _ HOL.out BX HW6.out HOU.out).mono ?_); rintro e w9 ⟨rfl, hb9⟩; dsimp only
              refine HK.out _ _ (fun f' h1 h2 => ⟨x69, x70, (.int .u16 (ow0 : Int)), x72, x73, x74, (.slice (some ⟨g75, 0, none⟩) 3 3), (.int .u16 (ow : Int)), x11, g75, (by simp only [Act.put, List.setIfInBounds_toArray, List.set_cons_zero, List.set_cons_succ]), ?_⟩)
              have e0 := h2 0 (by decide)
              have e1 := h2 1 (by decide)
              have e2 := h2 2 (by decide)
              have e3 := h2 3 (by decide)
              have e4 := h2 4 (by decide)
              have e5 := h2 5 (by decide)
              have e6 := h2 6 (by decide)
              have e8 := h2 8 (by decide)
              simp only [HK_, h1, e0, e1, e2, e3, e4, e5, e6, e8]
              exact ⟨below_call cB hb9, c0, c1, fun _ => (by first | rfl | trivial), c3, c4, c5, fun _ => ⟨(by first | rfl | trivial), l6, BX.kept hb9⟩, fun _ => (by first | rfl | trivial), c8⟩
            · intro f a' w' hf hpre hJ K hK
              simp only [Nat.reduceAdd] at hf hK
              have HK := Lib.hid hK
              clear hK
              simp [Region.binds] at hpre
              have hp7 : f 7 = true := (by first | exact hpre | exact hpre.1 | exact hpre.2.1 | exact hpre.2.2.1 | exact hpre.2 | exact hpre.2.2 | exact hpre.2.2.2.1)
              clear hpre
              obtain ⟨x69, x70, x71, x72, x73, x74, x75, x76, x11, g75, hx, cB, c0, c1, c2, c3, c4, c5, c6, c7, c8⟩ := hJ
              subst hx
              have ee := c7 hp7
              subst ee
              clear hp7
              go_simp
              refine HK.out _ _ (fun f' h1 h2 => ⟨x69, x70, x71, x72, x73, x74, x75, (.int .u16 (ow : Int)), (.int .u16 (ow : Int)), g75, (by simp only [Act.put, List.setIfInBounds_toArray, List.set_cons_zero, List.set_cons_succ]), ?_⟩)
              have e0 := h2 0 (by decide)
              have e1 := h2 1 (by decide)
              have e2 := h2 2 (by decide)
              have e3 := h2 3 (by decide)
              have e4 := h2 4 (by decide)
              have e5 := h2 5 (by decide)
              have e6 := h2 6 (by decide)
              have e7 := h2 7 (by decide)
              simp only [HK_, h1, e0, e1, e2, e3, e4, e5, e6, e7]
              exact ⟨cB, c0, c1, c2, c3, c4, c5, c6, fun _ => (by first | rfl | trivial), fun _ => (by first | rfl | trivial)⟩
          case refine_3 =>
            intro f a' w' hall hJ
            obtain ⟨x69, x70, x71, x72, x73, x74, x75, x76, x11, g75, hx, cB, c0, c1, c2, c3, c4, c5, c6, c7, c8⟩ := hJ
            subst hx
            have hall : ∀ k, k < 9 → f k = true := hall
            have ee := c0 (hall 0 (by decide))
            subst ee
            have ee := c1 (hall 1 (by decide))
            subst ee
            have ee := c2 (hall 2 (by decide))
            subst ee
            have ee := c3 (hall 3 (by decide))
            subst ee
            have ee := c4 (hall 4 (by decide))
            subst ee
            have ee := c5 (hall 5 (by decide))
            subst ee
            have ee := (c6 (hall 6 (by decide))).1
            have l6 := (c6 (hall 6 (by decide))).2.1
            have B6 := (c6 (hall 6 (by decide))).2.2
            subst ee
            have ee := c7 (hall 7 (by decide))
            subst ee
            have ee := c8 (hall 8 (by decide))
            subst ee
            clear hall c0 c1 c2 c3 c4 c5 c6 c7 c8
            simp only [Act.put, List.setIfInBounds_toArray, List.set_cons_zero, List.set_cons_succ]
            go_wp2_with fail
            go_meet
            exact ⟨rfl, cB⟩
        case rest =>
          obtain ⟨w14, rfl⟩ : ∃ x, x = wc := ⟨_, rfl⟩
          obtain ⟨rfl, h14⟩ := hcut
          have hbw14 := below_call hbw13 h14.out
          replace h9 := cell_keep h14.out h9
          replace hR2 := hR2.below h14.out
          have hR2n : ∀ k, RB (w14.drewN k) X2 wq := fun k => hR2.below (bel_dn0 w14 k)
          clear B6 B7 B8 h13 h14
          by_cases how : ow = 0
          · subst how
            have HFV : Hid (b2 wq 26 = 65535) := by show _ = _; rw [← HFN.out, HPR.out]; rfl
            go_upto_region 17 with (fail)
            go_wp2_with (first
              | (go_at_call 11; (with_reducible refine (lword_any wq X2 n k2 10 10 ip _ hR2 HL1.out (by omega) (by omega) rfl HIP.out).mono ?_); rintro e w15 ⟨rfl, k15, rfl⟩)
              | (go_at_call 11; (with_reducible refine (lword_any wq X2 n k2 26 26 65535 _ (hR2n _) HL1.out (by omega) (by omega) rfl HFV.out).mono ?_); rintro e w16 ⟨rfl, k16, rfl⟩))
            go_ret
            exact ⟨by simp [go_sem], hbw14.os, hbw14.tape, hbw14.output, hbw14.size, hbw14.block⟩
          · have HFV : Hid (b2 wq 26 = ow) := by show _ = _; rw [← HFN.out, if_neg (fun h => how h.1)]
            have d0 : decide (ow = 0) = false := decide_eq_false how
            go_upto_region 17 with (fail)
            go_wp2_with (first
              | (go_at_call 11; (with_reducible refine (lword_any wq X2 n k2 10 10 ip _ hR2 HL1.out (by omega) (by omega) rfl HIP.out).mono ?_); rintro e w15 ⟨rfl, k15, rfl⟩)
              | (go_at_call 11; (with_reducible refine (lword_any wq X2 n k2 26 26 ow _ (hR2n _) HL1.out (by omega) (by omega) rfl HFV.out).mono ?_); rintro e w16 ⟨rfl, k16, rfl⟩))
            go_ret
            exact ⟨by simp [go_sem], hbw14.os, hbw14.tape, hbw14.output, hbw14.size, hbw14.block⟩
    · rw [HB9.out] at hs
      rw [HN.out] at h40
      subst hs
      have HPR : Hid (p.fl.proto = 6) := by show _ = _; rw [← HPB.out, HB9.out]; rfl
      have HAT : Hid (ownAt p = 36) := by show _ = _; unfold ownAt; rw [HPR.out]; rfl
      obtain ⟨ow0, HO0⟩ : ∃ x, Hid (b2 l 36 = x) := ⟨_, rfl⟩
      obtain ⟨ow, HOU⟩ : ∃ x, Hid (upd ow0 [(m1, x1), (m2, x2), (m3, q)] = x) := ⟨_, rfl⟩
      have HOL : Hid (ow0 ≤ 65535) := by show _ ≤ _; rw [← HO0.out]; have := b2_lt l 36; omega
      have HFN : Hid ((if ow = 0 ∧ p.fl.proto = 17 then 65535 else ow) = b2 wq 36) := by
        have h := HDW.out.own
        rw [HAT.out] at h
        show _ = _
        rw [← h, ← HOU.out, ← HO0.out, ← HM1.out, ← HM2.out, ← HM3.out, ← HX1.out, ← HX2'.out]
        rfl
      go_upto_region 13 with (fail)
      go_cut [10] (fun v10 wx => v10 = .int .u16 (ip : Int) ∧ Hid (Below wa.heap.size wa wx))
      case first =>
        refine wp_region_inv_at (fun a0 d_ a' w' => ∃ (x63 x64 x65 x66 x67 x68 x10 : Value) (g67 : Nat), a' = (((((((a0.put (some 63) x63).put (some 64) x64).put (some 65) x65).put (some 66) x66).put (some 67) x67).put (some 68) x68).put (some 10) x10) ∧ HJ ad n c ip0 ip m1 m2 x1 x2 wa d_ w' x63 x64 x65 x66 x67 x68 x10 g67) (by kernel_rfl) (by kernel_rfl) ?_ ?_ ?_
        case refine_1 =>
          exact ⟨u63, u64, u65, u66, u67, u68, undef, 0, (by simp only [Act.put, List.setIfInBounds_toArray, List.set_cons_zero, List.set_cons_succ]), Below.drew (Below.refl _ wa), by simp, by simp, by simp, by simp, by simp, by simp, by simp⟩
        case refine_2 =>
          simp only [StepsInv]
          refine ⟨?_, ?_, ?_, ?_, ?_, ?_, ?_, trivial⟩
          · intro f a' w' hf hpre hJ K hK
            simp only [Nat.reduceAdd] at hf hK
            have HK := Lib.hid hK
            clear hK
            clear hpre
            obtain ⟨x63, x64, x65, x66, x67, x68, x10, g67, hx, cB, c0, c1, c2, c3, c4, c5, c6⟩ := hJ
            subst hx
            go_simp
            refine HK.out _ _ (fun f' h1 h2 => ⟨(.slice (some ad) n c), x64, x65, x66, x67, x68, x10, g67, (by simp only [Act.put, List.setIfInBounds_toArray, List.set_cons_zero, List.set_cons_succ]), ?_⟩)
            have e1 := h2 1 (by decide)
            have e2 := h2 2 (by decide)
            have e3 := h2 3 (by decide)
            have e4 := h2 4 (by decide)
            have e5 := h2 5 (by decide)
            have e6 := h2 6 (by decide)
            simp only [HJ, h1, e1, e2, e3, e4, e5, e6]
            exact ⟨cB, fun _ => (by first | rfl | trivial), c1, c2, c3, c4, c5, c6⟩
          · intro f a' w' hf hpre hJ K hK
            simp only [Nat.reduceAdd] at hf hK
            have HK := Lib.hid hK
            clear hK
            simp [Region.binds] at hpre
            have hp0 : f 0 = true := (by first | exact hpre | exact hpre.1 | exact hpre.2.1 | exact hpre.2.2.1 | exact hpre.2 | exact hpre.2.2 | exact hpre.2.2.2.1)
            clear hpre
            obtain ⟨x63, x64, x65, x66, x67, x68, x10, g67, hx, cB, c0, c1, c2, c3, c4, c5, c6⟩ := hJ
            subst hx
            have ee := c0 hp0
            subst ee
            clear hp0
            have hRB := HRL.out.below cB
            go_simp
            (with_reducible refine (lword_any l (some ad) n c 10 10 ip0 _ hRB HN.out (by omega) (by omega) rfl HI0.out).mono ?_); rintro e w9 ⟨rfl, k9, rfl⟩; dsimp only; have hb9 := bel_dn0 w' k9
            refine HK.out _ _ (fun f' h1 h2 => ⟨(.slice (some ad) n c), (.int .u16 (ip0 : Int)), x65, x66, x67, x68, x10, g67, (by simp only [Act.put, List.setIfInBounds_toArray, List.set_cons_zero, List.set_cons_succ]), ?_⟩)
            have e0 := h2 0 (by decide)
            have e2 := h2 2 (by decide)
            have e3 := h2 3 (by decide)
            have e4 := h2 4 (by decide)
            have e5 := h2 5 (by decide)
            have e6 := h2 6 (by decide)
            simp only [HJ, h1, e0, e2, e3, e4, e5, e6]
            exact ⟨below_call cB hb9, fun _ => (by first | rfl | trivial), fun _ => (by first | rfl | trivial), c2, c3, fun h => ⟨(c4 h).1, (c4 h).2.1, (c4 h).2.2.kept hb9⟩, c5, c6⟩
          · intro f a' w' hf hpre hJ K hK
            simp only [Nat.reduceAdd] at hf hK
            have HK := Lib.hid hK
            clear hK
            clear hpre
            obtain ⟨x63, x64, x65, x66, x67, x68, x10, g67, hx, cB, c0, c1, c2, c3, c4, c5, c6⟩ := hJ
            subst hx
            have z0 := (B6.kept cB).cell 0; have z1 := (B6.kept cB).cell 1; simp only [List.getElem?_cons_zero, List.getElem?_cons_succ] at z0 z1
            go_simp
            refine HK.out _ _ (fun f' h1 h2 => ⟨x63, x64, (.agg #[.int .u16 (m1 : Int), .int .u16 (x1 : Int)]), x66, x67, x68, x10, g67, (by simp only [Act.put, List.setIfInBounds_toArray, List.set_cons_zero, List.set_cons_succ]), ?_⟩)
            have e0 := h2 0 (by decide)
            have e1 := h2 1 (by decide)
            have e3 := h2 3 (by decide)
            have e4 := h2 4 (by decide)
            have e5 := h2 5 (by decide)
            have e6 := h2 6 (by decide)
            simp only [HJ, h1, e0, e1, e3, e4, e5, e6]
            exact ⟨cB, c0, c1, fun _ => (by first | rfl | trivial), c3, c4, c5, c6⟩
          · intro f a' w' hf hpre hJ K hK
            simp only [Nat.reduceAdd] at hf hK
            have HK := Lib.hid hK
            clear hK
            clear hpre
            obtain ⟨x63, x64, x65, x66, x67, x68, x10, g67, hx, cB, c0, c1, c2, c3, c4, c5, c6⟩ := hJ
            subst hx
            have z0 := (B7.kept cB).cell 0; have z1 := (B7.kept cB).cell 1; simp only [List.getElem?_cons_zero, List.getElem?_cons_succ] at z0 z1
            go_simp
            refine HK.out _ _ (fun f' h1 h2 => ⟨x63, x64, x65, (.agg #[.int .u16 (m2 : Int), .int .u16 (x2 : Int)]), x67, x68, x10, g67, (by simp only [Act.put, List.setIfInBounds_toArray, List.set_cons_zero, List.set_cons_succ]), ?_⟩)
            have e0 := h2 0 (by decide)
            have e1 := h2 1 (by decide)
            have e2 := h2 2 (by decide)
            have e4 := h2 4 (by decide)
            have e5 := h2 5 (by decide)
            have e6 := h2 6 (by decide)
            simp only [HJ, h1, e0, e1, e2, e4, e5, e6]
            exact ⟨cB, c0, c1, c2, fun _ => (by first | rfl | trivial), c4, c5, c6⟩
          · intro f a' w' hf hpre hJ K hK
            simp only [Nat.reduceAdd] at hf hK
            have HK := Lib.hid hK
            clear hK
            simp [Region.binds] at hpre
            have hp2 : f 2 = true := (by first | exact hpre | exact hpre.1 | exact hpre.2.1 | exact hpre.2.2.1 | exact hpre.2 | exact hpre.2.2 | exact hpre.2.2.2.1)
            have hp3 : f 3 = true := (by first | exact hpre | exact hpre.1 | exact hpre.2.1 | exact hpre.2.2.1 | exact hpre.2 | exact hpre.2.2 | exact hpre.2.2.2.1)
            clear hpre
            obtain ⟨x63, x64, x65, x66, x67, x68, x10, g67, hx, cB, c0, c1, c2, c3, c4, c5, c6⟩ := hJ
            subst hx
            have ee := c2 hp2
            subst ee
            clear hp2
            have ee := c3 hp3
            subst ee
            clear hp3
            go_simp
            refine HK.out _ _ (fun f' h1 h2 => ⟨x63, x64, (.agg #[.int .u16 (m1 : Int), .int .u16 (x1 : Int)]), (.agg #[.int .u16 (m2 : Int), .int .u16 (x2 : Int)]), (.slice (some ⟨w'.heap.size, 0, none⟩) 2 2), x68, x10, w'.heap.size, (by simp only [Act.put, List.setIfInBounds_toArray, List.set_cons_zero, List.set_cons_succ]), ?_⟩)
            have e0 := h2 0 (by decide)
            have e1 := h2 1 (by decide)
            have e2 := h2 2 (by decide)
            have e3 := h2 3 (by decide)
            have e5 := h2 5 (by decide)
            have e6 := h2 6 (by decide)
            simp only [HJ, h1, e0, e1, e2, e3, e5, e6]
            exact ⟨below_al cB _, c0, c1, fun _ => (by first | rfl | trivial), fun _ => (by first | rfl | trivial), fun _ => ⟨(by first | rfl | trivial), cB.size, by exact Blk.new w' _ _⟩, c5, c6⟩
          · intro f a' w' hf hpre hJ K hK
            simp only [Nat.reduceAdd] at hf hK
            have HK := Lib.hid hK
            clear hK
            simp [Region.binds] at hpre
            have hp1 : f 1 = true := (by first | exact hpre | exact hpre.1 | exact hpre.2.1 | exact hpre.2.2.1 | exact hpre.2 | exact hpre.2.2 | exact hpre.2.2.2.1)
            have hp4 : f 4 = true := (by first | exact hpre | exact hpre.1 | exact hpre.2.1 | exact hpre.2.2.1 | exact hpre.2 | exact hpre.2.2 | exact hpre.2.2.2.1)
            clear hpre
            obtain ⟨x63, x64, x65, x66, x67, x68, x10, g67, hx, cB, c0, c1, c2, c3, c4, c5, c6⟩ := hJ
            subst hx
            have ee := c1 hp1
            subst ee
            clear hp1
            have ee := (c4 hp4).1
            have l4 := (c4 hp4).2.1
            have B4 := (c4 hp4).2.2
            subst ee
            have HP4 := Lib.hid hp4
            clear hp4
            go_simp
            (with_reducible refine (update2_n ip0 ip m1 x1 m2 x2 g67 _ _ HIL.out B4 HW4.out HIU.out).mono ?_); rintro e w9 ⟨rfl, hb9⟩; dsimp only
            refine HK.out _ _ (fun f' h1 h2 => ⟨x63, (.int .u16 (ip0 : Int)), x65, x66, (.slice (some ⟨g67, 0, none⟩) 2 2), (.int .u16 (ip : Int)), x10, g67, (by simp only [Act.put, List.setIfInBounds_toArray, List.set_cons_zero, List.set_cons_succ]), ?_⟩)
            have e0 := h2 0 (by decide)
            have e1 := h2 1 (by decide)
            have e2 := h2 2 (by decide)
            have e3 := h2 3 (by decide)
            have e4 := h2 4 (by decide)
            have e6 := h2 6 (by decide)
            simp only [HJ, h1, e0, e1, e2, e3, e4, e6]
            exact ⟨below_call cB hb9, c0, fun _ => (by first | rfl | trivial), c2, c3, fun _ => ⟨(by first | rfl | trivial), l4, B4.kept hb9⟩, fun _ => (by first | rfl | trivial), c6⟩
          · intro f a' w' hf hpre hJ K hK
            simp only [Nat.reduceAdd] at hf hK
            have HK := Lib.hid hK
            clear hK
            simp [Region.binds] at hpre
            have hp5 : f 5 = true := (by first | exact hpre | exact hpre.1 | exact hpre.2.1 | exact hpre.2.2.1 | exact hpre.2 | exact hpre.2.2 | exact hpre.2.2.2.1)
            clear hpre
            obtain ⟨x63, x64, x65, x66, x67, x68, x10, g67, hx, cB, c0, c1, c2, c3, c4, c5, c6⟩ := hJ
            subst hx
            have ee := c5 hp5
            subst ee
            clear hp5
            go_simp
            refine HK.out _ _ (fun f' h1 h2 => ⟨x63, x64, x65, x66, x67, (.int .u16 (ip : Int)), (.int .u16 (ip : Int)), g67, (by simp only [Act.put, List.setIfInBounds_toArray, List.set_cons_zero, List.set_cons_succ]), ?_⟩)
            have e0 := h2 0 (by decide)
            have e1 := h2 1 (by decide)
            have e2 := h2 2 (by decide)
            have e3 := h2 3 (by decide)
            have e4 := h2 4 (by decide)
            have e5 := h2 5 (by decide)
            simp only [HJ, h1, e0, e1, e2, e3, e4, e5]
            exact ⟨cB, c0, c1, c2, c3, c4, fun _ => (by first | rfl | trivial), fun _ => (by first | rfl | trivial)⟩
        case refine_3 =>
          intro f a' w' hall hJ
          obtain ⟨x63, x64, x65, x66, x67, x68, x10, g67, hx, cB, c0, c1, c2, c3, c4, c5, c6⟩ := hJ
          subst hx
          have hall : ∀ k, k < 7 → f k = true := hall
          have ee := c0 (hall 0 (by decide))
          subst ee
          have ee := c1 (hall 1 (by decide))
          subst ee
          have ee := c2 (hall 2 (by decide))
          subst ee
          have ee := c3 (hall 3 (by decide))
          subst ee
          have ee := (c4 (hall 4 (by decide))).1
          have l4 := (c4 (hall 4 (by decide))).2.1
          have B4 := (c4 (hall 4 (by decide))).2.2
          subst ee
          have ee := c5 (hall 5 (by decide))
          subst ee
          have ee := c6 (hall 6 (by decide))
          subst ee
          clear hall c0 c1 c2 c3 c4 c5 c6
          simp only [Act.put, List.setIfInBounds_toArray, List.set_cons_zero, List.set_cons_succ]
          go_wp2_with fail
          go_meet
          exact ⟨rfl, cB⟩
      case rest =>
        obtain ⟨w13, rfl⟩ : ∃ x, x = wc := ⟨_, rfl⟩
        obtain ⟨rfl, h13⟩ := hcut
        have hbw13 := below_call hbwc h13.out
        replace h9 := cell_keep h13.out h9
        replace HRL := Lib.hid (HRL.out.below h13.out)
        replace hR2 := hR2.below h13.out
        replace B6 := B6.kept h13.out
        replace B7 := B7.kept h13.out
        replace B8 := B8.kept h13.out
        go_upto_region 14 with (fail)
        go_cut [11] (fun v11 wx => v11 = .int .u16 (ow : Int) ∧ Hid (Below w13.heap.size w13 wx))
        case first =>
          refine wp_region_inv_at (fun a0 d_ a' w' => ∃ (x69 x70 x71 x72 x73 x74 x75 x76 x11 : Value) (g75 : Nat), a' = (((((((((a0.put (some 69) x69).put (some 70) x70).put (some 71) x71).put (some 72) x72).put (some 73) x73).put (some 74) x74).put (some 75) x75).put (some 76) x76).put (some 11) x11) ∧ HK_ ad n c ow0 ow m1 m2 m3 x1 x2 q 36 w13 d_ w' x69 x70 x71 x72 x73 x74 x75 x76 x11 g75) (by kernel_rfl) (by kernel_rfl) ?_ ?_ ?_
          case refine_1 =>
            exact ⟨u69, u70, u71, u72, u73, u74, u75, u76, undef, 0, (by simp only [Act.put, List.setIfInBounds_toArray, List.set_cons_zero, List.set_cons_succ]), Below.drew (Below.refl _ w13), by simp, by simp, by simp, by simp, by simp, by simp, by simp, by simp, by simp⟩
          case refine_2 =>
            simp only [StepsInv]
            refine ⟨?_, ?_, ?_, ?_, ?_, ?_, ?_, ?_, ?_, trivial⟩
            · intro f a' w' hf hpre hJ K hK
              simp only [Nat.reduceAdd] at hf hK
              have HK := Lib.hid hK
              clear hK
              clear hpre
              obtain ⟨x69, x70, x71, x72, x73, x74, x75, x76, x11, g75, hx, cB, c0, c1, c2, c3, c4, c5, c6, c7, c8⟩ := hJ
              subst hx
              go_simp
              refine HK.out _ _ (fun f' h1 h2 => ⟨(.slice (some ad) n c), x70, x71, x72, x73, x74, x75, x76, x11, g75, (by simp only [Act.put, List.setIfInBounds_toArray, List.set_cons_zero, List.set_cons_succ]), ?_⟩)
              have e1 := h2 1 (by decide)
              have e2 := h2 2 (by decide)
              have e3 := h2 3 (by decide)
              have e4 := h2 4 (by decide)
              have e5 := h2 5 (by decide)
              have e6 := h2 6 (by decide)
              have e7 := h2 7 (by decide)
              have e8 := h2 8 (by decide)
              simp only [HK_, h1, e1, e2, e3, e4, e5, e6, e7, e8]
              exact ⟨cB, fun _ => (by first | rfl | trivial), c1, c2, c3, c4, c5, c6, c7, c8⟩
            · intro f a' w' hf hpre hJ K hK
              simp only [Nat.reduceAdd] at hf hK
              have HK := Lib.hid hK
              clear hK
              clear hpre
              obtain ⟨x69, x70, x71, x72, x73, x74, x75, x76, x11, g75, hx, cB, c0, c1, c2, c3, c4, c5, c6, c7, c8⟩ := hJ
              subst hx
              go_simp
              refine HK.out _ _ (fun f' h1 h2 => ⟨x69, (.int .i64 36), x71, x72, x73, x74, x75, x76, x11, g75, (by simp only [Act.put, List.setIfInBounds_toArray, List.set_cons_zero, List.set_cons_succ]), ?_⟩)
              have e0 := h2 0 (by decide)
              have e2 := h2 2 (by decide)
              have e3 := h2 3 (by decide)
              have e4 := h2 4 (by decide)
              have e5 := h2 5 (by decide)
              have e6 := h2 6 (by decide)
              have e7 := h2 7 (by decide)
              have e8 := h2 8 (by decide)
              simp only [HK_, h1, e0, e2, e3, e4, e5, e6, e7, e8]
              exact ⟨cB, c0, fun _ => (by first | rfl | trivial), c2, c3, c4, c5, c6, c7, c8⟩
            · intro f a' w' hf hpre hJ K hK
              simp only [Nat.reduceAdd] at hf hK
              have HK := Lib.hid hK
              clear hK
              simp [Region.binds] at hpre
              have hp0 : f 0 = true := (by first | exact hpre | exact hpre.1 | exact hpre.2.1 | exact hpre.2.2.1 | exact hpre.2 | exact hpre.2.2 | exact hpre.2.2.2.1)
              have hp1 : f 1 = true := (by first | exact hpre | exact hpre.1 | exact hpre.2.1 | exact hpre.2.2.1 | exact hpre.2 | exact hpre.2.2 | exact hpre.2.2.2.1)
              clear hpre
              obtain ⟨x69, x70, x71, x72, x73, x74, x75, x76, x11, g75, hx, cB, c0, c1, c2, c3, c4, c5, c6, c7, c8⟩ := hJ
              subst hx
              have ee := c0 hp0
              subst ee
              clear hp0
              have ee := c1 hp1
              subst ee
              clear hp1
              have hRB := HRL.out.below cB
              go_simp
              (with_reducible refine (lword_any l (some ad) n c 36 36 ow0 _ hRB HN.out (by omega) (by omega) rfl HO0.out).mono ?_); rintro e w9 ⟨rfl, k9, rfl⟩; dsimp only; have hb9 := bel_dn0 w' k9
              refine HK.out _ _ (fun f' h1 h2 => ⟨(.slice (some ad) n c), (.int .i64 36), (.int .u16 (ow0 : Int)), x72, x73, x74, x75, x76, x11, g75, (by simp only [Act.put, List.setIfInBounds_toArray, List.set_cons_zero, List.set_cons_succ]), ?_⟩)
              have e0 := h2 0 (by decide)
              have e1 := h2 1 (by decide)
              have e3 := h2 3 (by decide)
              have e4 := h2 4 (by decide)
              have e5 := h2 5 (by decide)
              have e6 := h2 6 (by decide)
              have e7 := h2 7 (by decide)
              have e8 := h2 8 (by decide)
              simp only [HK_, h1, e0, e1, e3, e4, e5, e6, e7, e8]
              exact ⟨below_call cB hb9, fun _ => (by first | rfl | trivial), fun _ => (by first | rfl | trivial), fun _ => (by first | rfl | trivial), c3, c4, c5, fun h => ⟨(c6 h).1, (c6 h).2.1, (c6 h).2.2.kept hb9⟩, c7, c8⟩
            · intro f a' w' hf hpre hJ K hK
              simp only [Nat.reduceAdd] at hf hK
              have HK := Lib.hid hK
              clear hK
              clear hpre
              obtain ⟨x69, x70, x71, x72, x73, x74, x75, x76, x11, g75, hx, cB, c0, c1, c2, c3, c4, c5, c6, c7, c8⟩ := hJ
              subst hx
              have z0 := (B6.kept cB).cell 0; have z1 := (B6.kept cB).cell 1; simp only [List.getElem?_cons_zero, List.getElem?_cons_succ] at z0 z1
              go_simp
              refine HK.out _ _ (fun f' h1 h2 => ⟨x69, x70, x71, (.agg #[.int .u16 (m1 : Int), .int .u16 (x1 : Int)]), x73, x74, x75, x76, x11, g75, (by simp only [Act.put, List.setIfInBounds_toArray, List.set_cons_zero, List.set_cons_succ]), ?_⟩)
              have e0 := h2 0 (by decide)
              have e1 := h2 1 (by decide)
              have e2 := h2 2 (by decide)
              have e4 := h2 4 (by decide)
              have e5 := h2 5 (by decide)
              have e6 := h2 6 (by decide)
              have e7 := h2 7 (by decide)
              have e8 := h2 8 (by decide)
              simp only [HK_, h1, e0, e1, e2, e4, e5, e6, e7, e8]
              exact ⟨cB, c0, c1, c2, fun _ => (by first | rfl | trivial), c4, c5, c6, c7, c8⟩
            · intro f a' w' hf hpre hJ K hK
              simp only [Nat.reduceAdd] at hf hK
              have HK := Lib.hid hK
              clear hK
              clear hpre
              obtain ⟨x69, x70, x71, x72, x73, x74, x75, x76, x11, g75, hx, cB, c0, c1, c2, c3, c4, c5, c6, c7, c8⟩ := hJ
              subst hx
              have z0 := (B7.kept cB).cell 0; have z1 := (B7.kept cB).cell 1; simp only [List.getElem?_cons_zero, List.getElem?_cons_succ] at z0 z1
              go_simp
              refine HK.out _ _ (fun f' h1 h2 => ⟨x69, x70, x71, x72, (.agg #[.int .u16 (m2 : Int), .int .u16 (x2 : Int)]), x74, x75, x76, x11, g75, (by simp only [Act.put, List.setIfInBounds_toArray, List.set_cons_zero, List.set_cons_succ]), ?_⟩)
              have e0 := h2 0 (by decide)
              have e1 := h2 1 (by decide)
              have e2 := h2 2 (by decide)
              have e3 := h2 3 (by decide)
              have e5 := h2 5 (by decide)
              have e6 := h2 6 (by decide)
              have e7 := h2 7 (by decide)
              have e8 := h2 8 (by decide)
              simp only [HK_, h1, e0, e1, e2, e3, e5, e6, e7, e8]
              exact ⟨cB, c0, c1, c2, c3, fun _ => (by first | rfl | trivial), c5, c6, c7, c8⟩
            · intro f a' w' hf hpre hJ K hK
              simp only [Nat.reduceAdd] at hf hK
              have HK := Lib.hid hK
              clear hK
              clear hpre
              obtain ⟨x69, x70, x71, x72, x73, x74, x75, x76, x11, g75, hx, cB, c0, c1, c2, c3, c4, c5, c6, c7, c8⟩ := hJ
              subst hx
              have z0 := (B8.kept cB).cell 0; have z1 := (B8.kept cB).cell 1; simp only [List.getElem?_cons_zero, List.getElem?_cons_succ] at z0 z1
              go_simp
              refine HK.out _ _ (fun f' h1 h2 => ⟨x69, x70, x71, x72, x73, (.agg #[.int .u16 (m3 : Int), .int .u16 (q : Int)]), x75, x76, x11, g75, (by simp only [Act.put, List.setIfInBounds_toArray, List.set_cons_zero, List.set_cons_succ]), ?_⟩)
              have e0 := h2 0 (by decide)
              have e1 := h2 1 (by decide)
              have e2 := h2 2 (by decide)
              have e3 := h2 3 (by decide)
              have e4 := h2 4 (by decide)
              have e6 := h2 6 (by decide)
              have e7 := h2 7 (by decide)
              have e8 := h2 8 (by decide)
              simp only [HK_, h1, e0, e1, e2, e3, e4, e6, e7, e8]
              exact ⟨cB, c0, c1, c2, c3, c4, fun _ => (by first | rfl | trivial), c6, c7, c8⟩
            · intro f a' w' hf hpre hJ K hK
              simp only [Nat.reduceAdd] at hf hK
              have HK := Lib.hid hK
              clear hK
              simp [Region.binds] at hpre
              have hp3 : f 3 = true := (by first | exact hpre | exact hpre.1 | exact hpre.2.1 | exact hpre.2.2.1 | exact hpre.2 | exact hpre.2.2 | exact hpre.2.2.2.1)
              have hp4 : f 4 = true := (by first | exact hpre | exact hpre.1 | exact hpre.2.1 | exact hpre.2.2.1 | exact hpre.2 | exact hpre.2.2 | exact hpre.2.2.2.1)
              have hp5 : f 5 = true := (by first | exact hpre | exact hpre.1 | exact hpre.2.1 | exact hpre.2.2.1 | exact hpre.2 | exact hpre.2.2 | exact hpre.2.2.2.1)
              clear hpre
              obtain ⟨x69, x70, x71, x72, x73, x74, x75, x76, x11, g75, hx, cB, c0, c1, c2, c3, c4, c5, c6, c7, c8⟩ := hJ
              subst hx
              have ee := c3 hp3
              subst ee
              clear hp3
              have ee := c4 hp4
              subst ee
              clear hp4
              have ee := c5 hp5
              subst ee
              clear hp5
              go_simp
              refine HK.out _ _ (fun f' h1 h2 => ⟨x69, x70, x71, (.agg #[.int .u16 (m1 : Int), .int .u16 (x1 : Int)]), (.agg #[.int .u16 (m2 : Int), .int .u16 (x2 : Int)]), (.agg #[.int .u16 (m3 : Int), .int .u16 (q : Int)]), (.slice (some ⟨w'.heap.size, 0, none⟩) 3 3), x76, x11, w'.heap.size, (by simp only [Act.put, List.setIfInBounds_toArray, List.set_cons_zero, List.set_cons_succ]), ?_⟩)
              have e0 := h2 0 (by decide)
              have e1 := h2 1 (by decide)
              have e2 := h2 2 (by decide)
              have e3 := h2 3 (by decide)
              have e4 := h2 4 (by decide)
              have e5 := h2 5 (by decide)
              have e7 := h2 7 (by decide)
              have e8 := h2 8 (by decide)
              simp only [HK_, h1, e0, e1, e2, e3, e4, e5, e7, e8]
              exact ⟨below_al cB _, c0, c1, c2, fun _ => (by first | rfl | trivial), fun _ => (by first | rfl | trivial), fun _ => (by first | rfl | trivial), fun _ => ⟨(by first | rfl | trivial), cB.size, by exact Blk.new w' _ _⟩, c7, c8⟩
            · intro f a' w' hf hpre hJ K hK
              simp only [Nat.reduceAdd] at hf hK
              have HK := Lib.hid hK
              clear hK
              simp [Region.binds] at hpre
              have hp2 : f 2 = true := (by first | exact hpre | exact hpre.1 | exact hpre.2.1 | exact hpre.2.2.1 | exact hpre.2 | exact hpre.2.2 | exact hpre.2.2.2.1)
              have hp6 : f 6 = true := (by first | exact hpre | exact hpre.1 | exact hpre.2.1 | exact hpre.2.2.1 | exact hpre.2 | exact hpre.2.2 | exact hpre.2.2.2.1)
              clear hpre
              obtain ⟨x69, x70, x71, x72, x73, x74, x75, x76, x11, g75, hx, cB, c0, c1, c2, c3, c4, c5, c6, c7, c8⟩ := hJ
              subst hx
              have ee := c2 hp2
              subst ee
              clear hp2
              have ee := (c6 hp6).1
              have l6 := (c6 hp6).2.1
              have BX := (c6 hp6).2.2
              subst ee
              have HP6 := Lib.hid hp6
              clear hp6
              go_simp
              (with_reducible refine (update3_n ow0 ow m1 x1 m2 x2 m3 q g75 _ _ HOL.out BX HW6.out HOU.out).mono ?_); rintro e w9 ⟨rfl, hb9⟩; dsimp only
              refine HK.out _ _ (fun f' h1 h2 => ⟨x69, x70, (.int .u16 (ow0 : Int)), x72, x73, x74, (.slice (some ⟨g75, 0, none⟩) 3 3), (.int .u16 (ow : Int)), x11, g75, (by simp only [Act.put, List.setIfInBounds_toArray, List.set_cons_zero, List.set_cons_succ]), ?_⟩)
              have e0 := h2 0 (by decide)
              have e1 := h2 1 (by decide)
              have e2 := h2 2 (by decide)
              have e3 := h2 3 (by decide)
              have e4 := h2 4 (by decide)
              have e5 := h2 5 (by decide)
              have e6 := h2 6 (by decide)
              have e8 := h2 8 (by decide)
              simp only [HK_, h1, e0, e1, e2, e3, e4, e5, e6, e8]
              exact ⟨below_call cB hb9, c0, c1, fun _ => (by first | rfl | trivial), c3, c4, c5, fun _ => ⟨(by first | rfl | trivial), l6, BX.kept hb9⟩, fun _ => (by first | rfl | trivial), c8⟩
            · intro f a' w' hf hpre hJ K hK
              simp only [Nat.reduceAdd] at hf hK
              have HK := Lib.hid hK
              clear hK
              simp [Region.binds] at hpre
              have hp7 : f 7 = true := (by first | exact hpre | exact hpre.1 | exact hpre.2.1 | exact hpre.2.2.1 | exact hpre.2 | exact hpre.2.2 | exact hpre.2.2.2.1)
              clear hpre
              obtain ⟨x69, x70, x71, x72, x73, x74, x75, x76, x11, g75, hx, cB, c0, c1, c2, c3, c4, c5, c6, c7, c8⟩ := hJ
              subst hx
              have ee := c7 hp7
              subst ee
              clear hp7
              go_simp
              refine HK.out _ _ (fun f' h1 h2 => ⟨x69, x70, x71, x72, x73, x74, x75, (.int .u16 (ow : Int)), (.int .u16 (ow : Int)), g75, (by simp only [Act.put, List.setIfInBounds_toArray, List.set_cons_zero, List.set_cons_succ]), ?_⟩)
              have e0 := h2 0 (by decide)
              have e1 := h2 1 (by decide)
              have e2 := h2 2 (by decide)
              have e3 := h2 3 (by decide)
              have e4 := h2 4 (by decide)
              have e5 := h2 5 (by decide)
              have e6 := h2 6 (by decide)
              have e7 := h2 7 (by decide)
              simp only [HK_, h1, e0, e1, e2, e3, e4, e5, e6, e7]
              exact ⟨cB, c0, c1, c2, c3, c4, c5, c6, fun _ => (by first | rfl | trivial), fun _ => (by first | rfl | trivial)⟩
          case refine_3 =>
            intro f a' w' hall hJ
            obtain ⟨x69, x70, x71, x72, x73, x74, x75, x76, x11, g75, hx, cB, c0, c1, c2, c3, c4, c5, c6, c7, c8⟩ := hJ
            subst hx
            have hall : ∀ k, k < 9 → f k = true := hall
            have ee := c0 (hall 0 (by decide))
            subst ee
            have ee := c1 (hall 1 (by decide))
            subst ee
            have ee := c2 (hall 2 (by decide))
            subst ee
            have ee := c3 (hall 3 (by decide))
            subst ee
            have ee := c4 (hall 4 (by decide))
            subst ee
            have ee := c5 (hall 5 (by decide))
            subst ee
            have ee := (c6 (hall 6 (by decide))).1
            have l6 := (c6 (hall 6 (by decide))).2.1
            have B6 := (c6 (hall 6 (by decide))).2.2
            subst ee
            have ee := c7 (hall 7 (by decide))
            subst ee
            have ee := c8 (hall 8 (by decide))
            subst ee
            clear hall c0 c1 c2 c3 c4 c5 c6 c7 c8
            simp only [Act.put, List.setIfInBounds_toArray, List.set_cons_zero, List.set_cons_succ]
            go_wp2_with fail
            go_meet
            exact ⟨rfl, cB⟩
        case rest =>
          obtain ⟨w14, rfl⟩ : ∃ x, x = wc := ⟨_, rfl⟩
          obtain ⟨rfl, h14⟩ := hcut
          have hbw14 := below_call hbw13 h14.out
          replace h9 := cell_keep h14.out h9
          replace hR2 := hR2.below h14.out
          have hR2n : ∀ k, RB (w14.drewN k) X2 wq := fun k => hR2.below (bel_dn0 w14 k)
          clear B6 B7 B8 h13 h14
          by_cases how : ow = 0
          · subst how
            have HFV : Hid (b2 wq 36 = 0) := by show _ = _; rw [← HFN.out, HPR.out]; rfl
            go_upto_region 17 with (fail)
            go_wp2_with (first
              | (go_at_call 11; (with_reducible refine (lword_any wq X2 n k2 10 10 ip _ hR2 HL1.out (by omega) (by omega) rfl HIP.out).mono ?_); rintro e w15 ⟨rfl, k15, rfl⟩)
              | (go_at_call 11; (with_reducible refine (lword_any wq X2 n k2 36 36 0 _ (hR2n _) HL1.out (by omega) (by omega) rfl HFV.out).mono ?_); rintro e w16 ⟨rfl, k16, rfl⟩))
            go_ret
            exact ⟨by simp [go_sem], hbw14.os, hbw14.tape, hbw14.output, hbw14.size, hbw14.block⟩
          · have HFV : Hid (b2 wq 36 = ow) := by show _ = _; rw [← HFN.out, if_neg (fun h => how h.1)]
            have d0 : decide (ow = 0) = false := decide_eq_false how
            go_upto_region 17 with (fail)
            go_wp2_with (first
              | (go_at_call 11; (with_reducible refine (lword_any wq X2 n k2 10 10 ip _ hR2 HL1.out (by omega) (by omega) rfl HIP.out).mono ?_); rintro e w15 ⟨rfl, k15, rfl⟩)
              | (go_at_call 11; (with_reducible refine (lword_any wq X2 n k2 36 36 ow _ (hR2n _) HL1.out (by omega) (by omega) rfl HFV.out).mono ?_); rintro e w16 ⟨rfl, k16, rfl⟩))
            go_ret
            exact ⟨by simp [go_sem], hbw14.os, hbw14.tape, hbw14.output, hbw14.size, hbw14.block⟩
theorem RewriteSumsX_walk {H : Type} {da : DataW H} (x : Rwn) (v : Value) (w : World) (o : RwIs w v da x) (_b : Rows.uptoBulk da ≤ 1048576) :
    Calls Try.prog 3 #[v] w fun e w' => e = .returned (.bool true) ∧ Below w.heap.size w w' := by
  obtain ⟨B, c, rfl, h1, h2, h3, h4, h5, h6⟩ := o
  exact RewriteSums_walk x.l B c x.a x.port x.f w h1 h2 h3
end Go.Proofs.Ytbhdjalpkecbeaa
