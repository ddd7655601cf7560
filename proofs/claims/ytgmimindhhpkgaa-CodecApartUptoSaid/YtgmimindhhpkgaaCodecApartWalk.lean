/- The walk of the law CodecApart. -/
import Derived.Test.YtgmimindhhpkgaaAlive06
import Derived.Test.YtgmimindhhpkgaaMsgOpen
import Derived.Deep.RegionLaw
import Derived.Deep.RegionHeld3
import Derived.Deep.CutBlock
import Derived.Deep.DeepCutAuto
namespace Go.Proofs.Ytgmimindhhpkgaa
set_option linter.unusedVariables false
set_option linter.unusedSimpArgs false
open Go.RowKit

theorem frame_same {m n : Mg} (hm : Good m) (hn : Good n) (im : ∀ x ∈ m.nums, I64 x) (jn : ∀ x ∈ n.nums, I64 x) : decide (frame m = frame n) = same m n := by
  by_cases h : m = n
  · subst h
    rw [(same_iff m m).2 rfl]
    exact decide_eq_true rfl
  · have h2 : same m n = false := by
      cases hs : same m n with
      | false => rfl
      | true => exact absurd ((same_iff m n).1 hs) h
    rw [h2]
    apply decide_eq_false
    intro he
    exact h (frame_inj m n ⟨hm, im, rfl⟩ ⟨hn, jn, he.symm⟩)

set_option maxHeartbeats 3200000 in
theorem CodecApart_walk (m1 m2 : Mg) (v1 v2 : Value) (w : World) (hv1 : MgV w v1 m1) (hv2 : MgV w v2 m2) (n1 : m1.nums.length ≤ 1048576) (d1 : m1.data.length ≤ 1048576) (n2 : m2.nums.length ≤ 1048576) (d2 : m2.data.length ≤ 1048576) :
    Calls Try.prog 8 #[v1, v2] w fun e w' => e = .returned (.bool true) ∧ Below w.heap.size w w' := by
  obtain ⟨A, c, B, d, rfl, lc, ld, hA, hB, hI1, hK1⟩ := id hv1
  obtain ⟨A2, c2, B2, e2, rfl, lc2, ld2, hA2, hB2, hI2, hK2⟩ := id hv2
  have hb0 : Below w.heap.size w ((w.alloc (.cells #[.int .i64 m1.kind, .slice A m1.nums.length c, .slice B m1.data.length d] 25)).alloc (.cells #[.int .i64 m2.kind, .slice A2 m2.nums.length c2, .slice B2 m2.data.length e2] 25)) :=
    ((Below.refl _ w).alloc (Nat.le_refl _) _).alloc (by simp) _
  have hX : Blk ((w.alloc (.cells #[.int .i64 m1.kind, .slice A m1.nums.length c, .slice B m1.data.length d] 25)).alloc (.cells #[.int .i64 m2.kind, .slice A2 m2.nums.length c2, .slice B2 m2.data.length e2] 25)) w.heap.size 25 [.int .i64 m1.kind, .slice A m1.nums.length c, .slice B m1.data.length d] := (Blk.new w _ _).alloc _
  have hY : Blk ((w.alloc (.cells #[.int .i64 m1.kind, .slice A m1.nums.length c, .slice B m1.data.length d] 25)).alloc (.cells #[.int .i64 m2.kind, .slice A2 m2.nums.length c2, .slice B2 m2.data.length e2] 25)) (w.heap.size + 1) 25 [.int .i64 m2.kind, .slice A2 m2.nums.length c2, .slice B2 m2.data.length e2] := by
    simpa using Blk.new (w.alloc (.cells #[.int .i64 m1.kind, .slice A m1.nums.length c, .slice B m1.data.length d] 25)) 25 [.int .i64 m2.kind, .slice A2 m2.nums.length c2, .slice B2 m2.data.length e2]
  clear hA hB hA2 hB2
  have HI1 := Lib.hid hI1
  have HI2 := Lib.hid hI2
  clear hI1 hI2 hK1 hK2
  go_enter Try.func8, Try.ntmps8
  go_wp2_with fail
  generalize ((w.alloc (.cells #[.int .i64 m1.kind, .slice A m1.nums.length c, .slice B m1.data.length d] 25)).alloc (.cells #[.int .i64 m2.kind, .slice A2 m2.nums.length c2, .slice B2 m2.data.length e2] 25)) = wa at *
  refine (alive06_any wa).mono ?_
  rintro e w1 ⟨rfl, hb1'⟩
  have hb1 := hb0.trans (hb1'.mono hb0.size)
  have hX1 := hX.kept hb1'
  have hY1 := hY.kept hb1'
  have hw1 := hv1.below hb1
  have hw2 := hv2.below hb1
  clear hX hY hb1' hb0 hv1 hv2
  obtain ⟨cX0, cX1, cX2⟩ := blk3 hX1
  obtain ⟨cY0, cY1, cY2⟩ := blk3 hY1
  go_wp2_with fail
  refine (large_any _ w1).mono ?_
  rintro e w1' ⟨rfl, rfl⟩
  by_cases hl1 : (131072 : Int) < (m1.data.length : Int)
  · rw [show decide ((131072 : Int) < (m1.data.length : Int)) = true from decide_eq_true hl1]
    go_wp2_with fail
    go_ret
    exact ⟨rfl, hb1⟩
  rw [show decide ((131072 : Int) < (m1.data.length : Int)) = false from decide_eq_false hl1]
  clear hl1
  go_wp2_with fail
  refine (large_any _ w1').mono ?_
  rintro e w1 ⟨rfl, rfl⟩
  by_cases hl2 : (131072 : Int) < (m2.data.length : Int)
  · rw [show decide ((131072 : Int) < (m2.data.length : Int)) = true from decide_eq_true hl2]
    go_wp2_with fail
    go_ret
    exact ⟨rfl, hb1⟩
  rw [show decide ((131072 : Int) < (m2.data.length : Int)) = false from decide_eq_false hl2]
  clear hl2
  by_cases hg1 : Good m1
  · go_wp2_with fail
    refine (frame_good m1 _ w1 hw1 hg1).mono ?_
    rintro e w2 ⟨u1, rfl, hown1, hb2⟩
    have hb2' := hb1.trans (hb2.mono hb1.size)
    have hX2 := hX1.kept hb2
    have hY2 := hY1.kept hb2
    have hw22 := hw2.below hb2
    have hw21 := hw1.below hb2
    clear hX1 hY1 hb2 hb1 hw1 hw2 cX0 cX1 cX2 cY0 cY1 cY2
    obtain ⟨cX0, cX1, cX2⟩ := blk3 hX2
    obtain ⟨cY0, cY1, cY2⟩ := blk3 hY2
    by_cases hg2 : Good m2
    · have HFS := Lib.hid (frame_same hg1 hg2 HI1.out HI2.out)
      clear HI1 HI2
      go_wp2_with fail
      refine (frame_good m2 _ w2 hw22 hg2).mono ?_
      rintro e w3 ⟨u2, rfl, hown2, hb3⟩
      have hb3' := hb2'.trans (hb3.mono hb2'.size)
      have hX3 := hX2.kept hb3
      have hY3 := hY2.kept hb3
      have hw32 := hw22.below hb3
      have hw31 := hw21.below hb3
      have ho1 := own_below hown1 hb3
      clear hX2 hY2 hb3 hb2' hw22 hw21 cX0 cX1 cX2 cY0 cY1 cY2 hown1
      obtain ⟨cX0, cX1, cX2⟩ := blk3 hX3
      obtain ⟨cY0, cY1, cY2⟩ := blk3 hY3
      generalize frame m1 = f1 at *
      generalize frame m2 = f2 at *
      obtain ⟨F1, k1, rfl, hk1, hR1, -⟩ := own_form ho1
      obtain ⟨F2, k2, rfl, hk2, hR2, -⟩ := own_form hown2
      have HS1 : Hid (∀ w' : World, Below w3.drew.heap.size w3.drew w' → (convert 23 9 (.slice F1 f1.length k1)).run Try.prog w' = .ok (.string (bs f1)) w') :=
        fun w' hb' => run_str (P := Try.prog) w' _ _ _ Try.underlying23 Try.underlying5 Try.underlying9 _ _ k1 _ (RB.below (show RB w3.drew F1 f1 from hR1) hb') rfl
      have HS2 : Hid (∀ w' : World, Below w3.drew.heap.size w3.drew w' → (convert 23 9 (.slice F2 f2.length k2)).run Try.prog w' = .ok (.string (bs f2)) w') :=
        fun w' hb' => run_str (P := Try.prog) w' _ _ _ Try.underlying23 Try.underlying5 Try.underlying9 _ _ k2 _ (RB.below (show RB w3.drew F2 f2 from hR2) hb') rfl
      have hcm := beq_bs f1 f2
      rw [HFS.out] at hcm
      clear hg1 hg2 HFS ho1 hown2 hR1 hR2
      generalize bs f1 = q1 at *
      generalize bs f2 = q2 at *
      have HB3 := Lib.hid hb3'
      clear hb3'
      have s1 := HS1.out w3.drew (Below.refl _ _)
      have hw31d : MgV w3.drew _ m1 := hw31
      have hw32d : MgV w3.drew _ m2 := hw32
      have s2 := HS2.out w3.drew (Below.refl _ _)
      go_upto_region 7 with fail
      go_region_held3 (fun w' => w'.cell? ⟨w.heap.size, 0, none⟩ = some (.int .i64 m1.kind) ∧ w'.cell? ⟨w.heap.size, 1, none⟩ = some (.slice A m1.nums.length c) ∧ w'.cell? ⟨w.heap.size, 2, none⟩ = some (.slice B m1.data.length d)
          ∧ w'.cell? ⟨w.heap.size + 1, 0, none⟩ = some (.int .i64 m2.kind) ∧ w'.cell? ⟨w.heap.size + 1, 1, none⟩ = some (.slice A2 m2.nums.length c2) ∧ w'.cell? ⟨w.heap.size + 1, 2, none⟩ = some (.slice B2 m2.data.length e2)
          ∧ (convert 23 9 (.slice F1 f1.length k1)).run Try.prog w' = .ok (.string q1) w' ∧ (convert 23 9 (.slice F2 f2.length k2)).run Try.prog w' = .ok (.string q2) w')
        (first | exact ⟨cX0, cX1, cX2, cY0, cY1, cY2, s1, s2⟩ | exact ⟨cell_keep hb4 cX0, cell_keep hb4 cX1, cell_keep hb4 cX2, cell_keep hb4 cY0, cell_keep hb4 cY1, cell_keep hb4 cY2, HS1.out _ hb4, HS2.out _ hb4⟩)
        (first | (go_at_call 23; refine (same_any m1 m2 _ _ w3.drew hw31d hw32d (by omega)).mono ?_; rintro e w4 ⟨rfl, hb4⟩))
      all_goals
        go_wp2_with fail
        go_ret
        exact ⟨rfl, (Below.drew HB3.out).trans (hb4.mono HB3.out.size)⟩
    · clear HI1 HI2
      go_wp2_with fail
      refine (frame_bad m2 _ w2 hw22 hg2).mono ?_
      rintro e w3 ⟨rfl, hb3⟩
      go_wp2_with fail
      go_quiet (fail)
      go_wp2
      go_ret
      have hb := hb2'.trans (hb3.mono hb2'.size)
      exact ⟨rfl, ⟨hb.os, hb.tape, hb.output, hb.size, hb.block⟩⟩
  · go_wp2_with fail
    refine (frame_bad m1 _ w1 hw1 hg1).mono ?_
    rintro e w2 ⟨rfl, hb2⟩
    have hb2' := hb1.trans (hb2.mono hb1.size)
    have hX2 := hX1.kept hb2
    have hY2 := hY1.kept hb2
    have hw22 := hw2.below hb2
    clear hX1 hY1 hb2 hb1 hw1 hw2 cX0 cX1 cX2 cY0 cY1 cY2
    obtain ⟨cX0, cX1, cX2⟩ := blk3 hX2
    obtain ⟨cY0, cY1, cY2⟩ := blk3 hY2
    go_wp2_with fail
    by_cases hg2 : Good m2
    · refine (frame_good m2 _ w2 hw22 hg2).mono ?_
      rintro e w3 ⟨u2, rfl, hown2, hb3⟩
      go_wp2_with fail
      go_quiet (fail)
      go_wp2
      go_ret
      have hb := hb2'.trans (hb3.mono hb2'.size)
      exact ⟨rfl, ⟨hb.os, hb.tape, hb.output, hb.size, hb.block⟩⟩
    · refine (frame_bad m2 _ w2 hw22 hg2).mono ?_
      rintro e w3 ⟨rfl, hb3⟩
      go_wp2_with fail
      go_quiet (fail)
      go_wp2
      go_ret
      have hb := hb2'.trans (hb3.mono hb2'.size)
      exact ⟨rfl, ⟨hb.os, hb.tape, hb.output, hb.size, hb.block⟩⟩

theorem CodecApartX_walk {H : Type} {da db : DataW H} (m1 : Mg) (v1 : Value) (m2 : Mg) (v2 : Value) (w : World) (o1 : MsgIs w v1 da m1) (b1 : Rows.uptoBulk da ≤ 1048576) (o2 : MsgIs w v2 db m2) (b2 : Rows.uptoBulk db ≤ 1048576) :
    Calls Try.prog 8 #[v1, v2] w fun e w' => e = .returned (.bool true) ∧ Below w.heap.size w w' := by
  obtain ⟨h1, h2, h3⟩ := o1
  obtain ⟨k1, k2, k3⟩ := o2
  exact CodecApart_walk m1 m2 v1 v2 w h1 k1 (by omega) (by omega) (by omega) (by omega)
end Go.Proofs.Ytgmimindhhpkgaa
