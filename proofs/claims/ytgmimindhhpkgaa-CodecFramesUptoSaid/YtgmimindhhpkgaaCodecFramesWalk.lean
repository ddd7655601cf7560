/- The walk of the law CodecFrames. -/
import Derived.Test.YtgmimindhhpkgaaKeptM
import Derived.Test.YtgmimindhhpkgaaCodecParsesWalk
namespace Go.Proofs.Ytgmimindhhpkgaa
set_option linter.unusedVariables false
set_option linter.unusedSimpArgs false
open Go.RowKit

theorem num_of9 {en : Int} {x : Value} (h : (en = 0 ∧ x = .nilIface) ∨ (en = 9 ∧ x = er 9)) (w : World) : Calls Try.prog 15 #[x] w fun e w' => e = .returned (.int .i64 en) ∧ w' = w := by
  rcases h with ⟨rfl, rfl⟩ | ⟨rfl, rfl⟩
  · exact num_nil w
  · exact num_er 9 (by omega) w
/-- What both Frames hand back: bytes, and whether there is an error. -/
def FrameIs (m : Mg) (fr : List UInt8) (en : Int) : Prop := (Good m ∧ fr = frame m ∧ en = 0) ∨ (¬ Good m ∧ fr = [] ∧ en = 9)
theorem frame_all (m : Mg) (v : Value) (w : World) (hv : MgV w v m) :
    Calls Try.prog 13 #[v] w fun e w' => ∃ fr en x A c, e = .returned (.tuple #[.slice A fr.length c, x]) ∧ FrameIs m fr en ∧ ((en = 0 ∧ x = .nilIface) ∨ (en = 9 ∧ x = er 9)) ∧ RB w' A fr ∧ Below w.heap.size w w' := by
  by_cases hg : Good m
  · refine (frame_good m v w hv hg).mono ?_
    rintro e w' ⟨v', rfl, ho, hb⟩
    obtain ⟨A, c, rfl, hc, hR, -⟩ := own_form ho
    exact ⟨frame m, 0, .nilIface, A, c, rfl, .inl ⟨hg, rfl, rfl⟩, .inl ⟨rfl, rfl⟩, hR, hb⟩
  · refine (frame_bad m v w hv hg).mono ?_
    rintro e w' ⟨rfl, hb⟩
    exact ⟨[], 9, er 9, none, 0, rfl, .inr ⟨hg, rfl, rfl⟩, .inr ⟨rfl, rfl⟩, RC.nil _ _, hb⟩
theorem rframe_all (m : Mg) (v : Value) (w : World) (hv : MgV w v m) :
    Calls Try.prog 14 #[v] w fun e w' => ∃ fr en A c, e = .returned (.tuple #[.slice A fr.length c, .int .i64 en]) ∧ FrameIs m fr en ∧ RB w' A fr ∧ Below w.heap.size w w' := by
  by_cases hg : Good m
  · refine (rframe_good m v w hv hg).mono ?_
    rintro e w' ⟨v', rfl, ho, hb⟩
    obtain ⟨A, c, rfl, hc, hR, -⟩ := own_form ho
    exact ⟨frame m, 0, A, c, rfl, .inl ⟨hg, rfl, rfl⟩, hR, hb⟩
  · refine (rframe_bad m v w hv hg).mono ?_
    rintro e w' ⟨rfl, hb⟩
    exact ⟨[], 9, none, 0, rfl, .inr ⟨hg, rfl, rfl⟩, RC.nil _ _, hb⟩
theorem frameIs_one {m : Mg} {f f' : List UInt8} {k k' : Int} (h : FrameIs m f k) (h' : FrameIs m f' k') : f = f' ∧ k = k' := by
  rcases h with ⟨h1, rfl, rfl⟩ | ⟨h1, rfl, rfl⟩
  · rcases h' with ⟨h2, rfl, rfl⟩ | ⟨h2, rfl, rfl⟩
    · exact ⟨rfl, rfl⟩
    · exact absurd h1 h2
  · rcases h' with ⟨h2, rfl, rfl⟩ | ⟨h2, rfl, rfl⟩
    · exact absurd h2 h1
    · exact ⟨rfl, rfl⟩

set_option maxHeartbeats 3200000 in
theorem CodecFrames_walk (m : Mg) (v : Value) (w : World) (hv : MgV w v m) (nl : m.nums.length ≤ 1048576) (dl : m.data.length ≤ 1048576) :
    Calls Try.prog 3 #[v] w fun e w' => e = .returned (.bool true) ∧ Below w.heap.size w w' := by
  obtain ⟨A, c, B, e0, rfl, lc, ld, -, -, hI, hK⟩ := id hv
  have HI := Lib.hid hI
  clear hI
  have hb0 : Below w.heap.size w (w.alloc (.cells #[.int .i64 m.kind, .slice A m.nums.length c, .slice B m.data.length e0] 25)) := (Below.refl _ w).alloc (Nat.le_refl _) _
  have hX : Blk (w.alloc (.cells #[.int .i64 m.kind, .slice A m.nums.length c, .slice B m.data.length e0] 25)) w.heap.size 25 [.int .i64 m.kind, .slice A m.nums.length c, .slice B m.data.length e0] := Blk.new w _ _
  go_enter Try.func3, Try.ntmps3
  go_wp2_with fail
  generalize w.alloc (.cells #[.int .i64 m.kind, .slice A m.nums.length c, .slice B m.data.length e0] 25) = wa at *
  refine (alive06_any wa).mono ?_
  rintro e w1 ⟨rfl, hb1'⟩
  have hb1 := hb0.trans (hb1'.mono hb0.size)
  have hX1 := hX.kept hb1'
  have hw1 := hv.below hb1
  clear hX hb1' hb0 hv
  obtain ⟨cX0, cX1, cX2⟩ := blk3 hX1
  go_wp2_with fail
  refine (large_any _ w1).mono ?_
  rintro e w1' ⟨rfl, rfl⟩
  by_cases hl : (131072 : Int) < (m.data.length : Int)
  · rw [show decide ((131072 : Int) < (m.data.length : Int)) = true from decide_eq_true hl]
    go_wp2_with fail
    go_ret
    exact ⟨rfl, hb1⟩
  rw [show decide ((131072 : Int) < (m.data.length : Int)) = false from decide_eq_false hl]
  clear hl
  go_wp2_with fail
  refine (mine_any m _ w1' hw1 nl dl).mono ?_
  rintro e w2 ⟨v2, rfl, hm2, hb2⟩
  have hb2' := hb1.trans (hb2.mono hb1.size)
  have hX2 := hX1.kept hb2
  have hw2 := hw1.below hb2
  clear hX1 hw1 hb2 hb1 cX0 cX1 cX2
  obtain ⟨g1, g2, rfl, -⟩ := id hm2
  have hb3 := below_al hb2' (.cells #[.int .i64 m.kind, .slice (some ⟨g1, 0, none⟩) m.nums.length (m.nums.length + 1), .slice (some ⟨g2, 0, none⟩) m.data.length (m.data.length + 2)] 25)
  have hX3 := hX2.alloc (.cells #[.int .i64 m.kind, .slice (some ⟨g1, 0, none⟩) m.nums.length (m.nums.length + 1), .slice (some ⟨g2, 0, none⟩) m.data.length (m.data.length + 2)] 25)
  have hY3 : Blk (w2.alloc (.cells #[.int .i64 m.kind, .slice (some ⟨g1, 0, none⟩) m.nums.length (m.nums.length + 1), .slice (some ⟨g2, 0, none⟩) m.data.length (m.data.length + 2)] 25)) w2.heap.size 25 [.int .i64 m.kind, .slice (some ⟨g1, 0, none⟩) m.nums.length (m.nums.length + 1), .slice (some ⟨g2, 0, none⟩) m.data.length (m.data.length + 2)] := Blk.new w2 _ _
  have hal : Below w2.heap.size w2 (w2.alloc (.cells #[.int .i64 m.kind, .slice (some ⟨g1, 0, none⟩) m.nums.length (m.nums.length + 1), .slice (some ⟨g2, 0, none⟩) m.data.length (m.data.length + 2)] 25)) := (Below.refl _ w2).alloc (Nat.le_refl _) _
  have hm3 := hm2.below hal
  have hw3 := hw2.below hal
  clear hm2 hw2 hX2 hb2' hal
  go_upto_region 6 with fail
  generalize w2.alloc (.cells #[.int .i64 m.kind, .slice (some ⟨g1, 0, none⟩) m.nums.length (m.nums.length + 1), .slice (some ⟨g2, 0, none⟩) m.data.length (m.data.length + 2)] 25) = w3 at *
  generalize w2.heap.size = g3 at *
  obtain ⟨cX0, cX1, cX2⟩ := blk3 hX3
  obtain ⟨cY0, cY1, cY2⟩ := blk3 hY3
  go_wp2_with fail
  refine (frame_all m _ w3 (hm3.arg HI.out hK)).mono ?_
  rintro e w4 ⟨fr, en, x, F4, k4, rfl, hf4, hx4, hR4, hb4⟩
  have hb4' := below_call hb3 hb4
  have hX4 := hX3.kept hb4
  have hY4 := hY3.kept hb4
  have hm4 := hm3.below hb4
  have hw4 := hw3.below hb4
  clear hX3 hY3 hm3 hw3 hb4 hb3 cX0 cX1 cX2 cY0 cY1 cY2
  obtain ⟨cX0, cX1, cX2⟩ := blk3 hX4
  obtain ⟨cY0, cY1, cY2⟩ := blk3 hY4
  go_wp2_with fail
  refine (rframe_all m _ w4 hw4).mono ?_
  rintro e w5 ⟨fr', en', F5, k5, rfl, hf5, hR5, hb5⟩
  obtain ⟨rfl, rfl⟩ := frameIs_one hf4 hf5
  have hb5' := below_call hb4' hb5
  have hX5 := hX4.kept hb5
  have hY5 := hY4.kept hb5
  have hm5 := hm4.below hb5
  have hw5 := hw4.below hb5
  have hR45 := hR4.below hb5
  clear hX4 hY4 hm4 hw4 hb5 hb4' hf4 hf5 hR4 cX0 cX1 cX2 cY0 cY1 cY2
  obtain ⟨cX0, cX1, cX2⟩ := blk3 hX5
  obtain ⟨cY0, cY1, cY2⟩ := blk3 hY5
  have s1 := run_str (P := Try.prog) w5 _ _ _ Try.underlying23 Try.underlying5 Try.underlying9 _ _ k4 _ hR45 rfl
  have s2 := run_str (P := Try.prog) w5 _ _ _ Try.underlying23 Try.underlying5 Try.underlying9 _ _ k5 _ hR5 rfl
  have hcm : ((bs fr).toList == (bs fr).toList) = true := by simp
  generalize bs fr = q at *
  go_wp2_with fail
  refine (num_of9 hx4 w5).mono ?_
  rintro e w5' ⟨rfl, rfl⟩
  go_wp2_with fail
  refine (keptm_any m _ _ w5' hm5 hw5 nl dl).mono ?_
  rintro e w6 ⟨rfl, hb6⟩
  go_wp2_with fail
  go_ret
  exact ⟨rfl, below_call hb5' hb6⟩

theorem CodecFramesX_walk {H : Type} {da : DataW H} (m : Mg) (v : Value) (w : World) (o : MsgIs w v da m) (b : Rows.uptoBulk da ≤ 1048576) :
    Calls Try.prog 3 #[v] w fun e w' => e = .returned (.bool true) ∧ Below w.heap.size w w' := by
  obtain ⟨h1, h2, h3⟩ := o
  exact CodecFrames_walk m v w h1 (by omega) (by omega)
end Go.Proofs.Ytgmimindhhpkgaa
