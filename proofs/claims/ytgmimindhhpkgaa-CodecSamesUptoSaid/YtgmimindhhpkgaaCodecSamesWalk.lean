/- The walk of the law CodecSames. -/
import Derived.Test.YtgmimindhhpkgaaKeptM
namespace Go.Proofs.Ytgmimindhhpkgaa
set_option linter.unusedVariables false
set_option linter.unusedSimpArgs false
open Go.RowKit

theorem own_cell {w : World} {base : Nat} {e : TypeId} {g n c : Nat} {xs : List Value} (h : w.ownsRow base e 1 (.slice (some ⟨g, 0, none⟩) n c) n xs) (j : Nat) (hj : j < n) : w.cell? ⟨g, j, none⟩ = xs[j]? := h.cellAt j (by omega)
theorem own_head {w : World} {base : Nat} {e : TypeId} {n : Nat} {v : Value} {xs : List Value} (h : w.ownsRow base e 1 v n xs) (hn : 0 < n) : ∃ g c, v = .slice (some ⟨g, 0, none⟩) n c ∧ base ≤ g ∧ g < w.heap.size := by
  obtain ⟨A, c, rfl, -, hR, hl⟩ := own_form h
  cases xs with
  | nil => simp at hl; omega
  | cons x r =>
    rcases h.2 with ⟨hv, h0⟩ | ⟨g, cap, cur, hv, hb, hg, _⟩
    · omega
    · injection hv with hA hc
      subst hA
      exact ⟨g, c, rfl, hb, (Array.getElem?_eq_some_iff.1 hg).1⟩

set_option maxHeartbeats 6400000 in
theorem CodecSames_walk (m n : Mg) (v v2 : Value) (w : World) (hv : MgV w v m) (hv2 : MgV w v2 n) (nl : m.nums.length ≤ 1048576) (dl : m.data.length ≤ 1048576) :
    Calls Try.prog 7 #[v, v2] w fun e w' => e = .returned (.bool true) ∧ Below w.heap.size w w' := by
  obtain ⟨A, c, B, d, rfl, lc, ld, hA, hB, hI, hK⟩ := id hv
  obtain ⟨A2, c2, B2, e2, rfl, lc2, ld2, hA2, hB2, hI2, hK2⟩ := id hv2
  have HI := Lib.hid hI
  clear hI hI2 hK2 hA2 hB2 lc2 ld2
  have hb0 : Below w.heap.size w ((w.alloc (.cells #[.int .i64 m.kind, .slice A m.nums.length c, .slice B m.data.length d] 25)).alloc (.cells #[.int .i64 n.kind, .slice A2 n.nums.length c2, .slice B2 n.data.length e2] 25)) :=
    ((Below.refl _ w).alloc (Nat.le_refl _) _).alloc (by simp) _
  have hX : Blk ((w.alloc (.cells #[.int .i64 m.kind, .slice A m.nums.length c, .slice B m.data.length d] 25)).alloc (.cells #[.int .i64 n.kind, .slice A2 n.nums.length c2, .slice B2 n.data.length e2] 25)) w.heap.size 25 [.int .i64 m.kind, .slice A m.nums.length c, .slice B m.data.length d] := (Blk.new w _ _).alloc _
  have hY : Blk ((w.alloc (.cells #[.int .i64 m.kind, .slice A m.nums.length c, .slice B m.data.length d] 25)).alloc (.cells #[.int .i64 n.kind, .slice A2 n.nums.length c2, .slice B2 n.data.length e2] 25)) (w.heap.size + 1) 25 [.int .i64 n.kind, .slice A2 n.nums.length c2, .slice B2 n.data.length e2] := blk_new (by simp)
  go_enter Try.func7, Try.ntmps7
  go_wp2_with fail
  generalize ((w.alloc (.cells #[.int .i64 m.kind, .slice A m.nums.length c, .slice B m.data.length d] 25)).alloc (.cells #[.int .i64 n.kind, .slice A2 n.nums.length c2, .slice B2 n.data.length e2] 25)) = wa at *
  refine (alive06_any wa).mono ?_
  rintro e w1 ⟨rfl, hb1'⟩
  have hb1 := hb0.trans (hb1'.mono hb0.size)
  have hX1 := hX.kept hb1'
  have hY1 := hY.kept hb1'
  have hw1 := hv.below hb1
  have hn1 := hv2.below hb1
  clear hX hY hb1' hb0 hv hv2
  obtain ⟨cX0, cX1, cX2⟩ := blk3 hX1
  go_wp2_with fail
  refine (mine_any m _ w1 hw1 nl dl).mono ?_
  rintro e w2 ⟨vc, rfl, hm2, hb2⟩
  have hb2' := hb1.trans (hb2.mono hb1.size)
  have hX2 := hX1.kept hb2
  have hY2 := hY1.kept hb2
  have hw2 := hw1.below hb2
  have hn2 := hn1.below hb2
  clear hX1 hY1 hw1 hn1 hb2 hb1 cX0 cX1 cX2
  obtain ⟨g1, g2, rfl, -⟩ := id hm2
  have hal : Below w2.heap.size w2 (w2.alloc (.cells #[.int .i64 m.kind, .slice (some ⟨g1, 0, none⟩) m.nums.length (m.nums.length + 1), .slice (some ⟨g2, 0, none⟩) m.data.length (m.data.length + 2)] 25)) := (Below.refl _ w2).alloc (Nat.le_refl _) _
  have hZ3 : Blk (w2.alloc (.cells #[.int .i64 m.kind, .slice (some ⟨g1, 0, none⟩) m.nums.length (m.nums.length + 1), .slice (some ⟨g2, 0, none⟩) m.data.length (m.data.length + 2)] 25)) w2.heap.size 25 [.int .i64 m.kind, .slice (some ⟨g1, 0, none⟩) m.nums.length (m.nums.length + 1), .slice (some ⟨g2, 0, none⟩) m.data.length (m.data.length + 2)] := Blk.new w2 _ _
  go_upto_region 4 with fail
  generalize w2.alloc (.cells #[.int .i64 m.kind, .slice (some ⟨g1, 0, none⟩) m.nums.length (m.nums.length + 1), .slice (some ⟨g2, 0, none⟩) m.data.length (m.data.length + 2)] 25) = w3 at *
  have hb3 := below_call hb2' hal
  have hX3 := hX2.kept hal
  have hY3 := hY2.kept hal
  have hw3 := hw2.below hal
  have hn3 := hn2.below hal
  have hm3 := hm2.below hal
  generalize w2.heap.size = g3 at *
  clear hX2 hY2 hw2 hn2 hm2 hb2' hal
  obtain ⟨cX0, cX1, cX2⟩ := blk3 hX3
  obtain ⟨cZ0, cZ1, cZ2⟩ := blk3 hZ3
  have hC3 := hm3.arg HI.out hK
  obtain ⟨_, _, _, _, he, hc3, -, hA3, -⟩ := id hC3
  injection he with he
  simp only [Array.mk.injEq, List.cons.injEq, Value.slice.injEq, and_true, true_and] at he
  obtain ⟨⟨rfl, rfl⟩, -, -⟩ := he
  go_wp2_with fail
  refine (make_any m.kind m.nums _ _ w3 hA3 hc3 (by omega)).mono ?_
  rintro e w4 ⟨vn, rfl, hown4, hb4⟩
  have hal : Below w4.heap.size w4 (w4.alloc (.cells #[.int .i64 m.kind, vn, .slice none 0 0] 25)) := (Below.refl _ w4).alloc (Nat.le_refl _) _
  have hx4 : MgV w4 (.agg #[.int .i64 m.kind, vn, .slice none 0 0]) ⟨m.kind, m.nums, []⟩ := by
    obtain ⟨A5, c5, rfl, hc5, hR5, -⟩ := own_form hown4
    exact ⟨A5, c5, none, 0, rfl, hc5, Nat.le_refl _, hR5, RC.nil _ _, HI.out, hK⟩
  have hW4 : Blk (w4.alloc (.cells #[.int .i64 m.kind, vn, .slice none 0 0] 25)) w4.heap.size 25 [.int .i64 m.kind, vn, .slice none 0 0] := Blk.new w4 _ _
  have hb34 := below_call hb4 hal
  have hs34 := hb4.size
  obtain ⟨A5, c5, rfl, -, -, -⟩ := own_form hown4
  go_upto_region 5 with fail
  have hown5 := own_below hown4 hal
  have hgl : ∀ g, (Value.slice A5 m.nums.length c5).ownBlock = some g → g < w4.heap.size := fun g hg => (hown4.lt g hg).2
  have hx5 := hx4.below hal
  generalize w4.alloc (.cells #[.int .i64 m.kind, .slice A5 m.nums.length c5, .slice none 0 0] 25) = w5 at *
  generalize w4.heap.size = g5 at *
  have hX5 := hX3.kept hb34
  have hY5 := hY3.kept hb34
  have hZ5 := hZ3.kept hb34
  have hw5 := hw3.below hb34
  have hn5 := hn3.below hb34
  have hC5 := hC3.below hb34
  have hr5 : MgV w5 (.agg #[.int .i64 m.kind, .slice A m.nums.length c, .slice none 0 0]) ⟨m.kind, m.nums, []⟩ := by
    obtain ⟨_, _, _, _, he, h1, h2, h3, h4, h5, h6⟩ := hw5
    injection he with he
    simp only [Array.mk.injEq, List.cons.injEq, Value.slice.injEq, and_true, true_and] at he
    obtain ⟨⟨rfl, rfl⟩, -, -⟩ := he
    exact ⟨_, _, none, 0, rfl, h1, Nat.le_refl _, h3, RC.nil _ _, h5, h6⟩
  clear hal hx4 hown4 hC3 cX0 cX1 cX2 cZ0 cZ1 cZ2 hA3 hb4
  obtain ⟨cX0, cX1, cX2⟩ := blk3 hX5
  obtain ⟨cY0, cY1, cY2⟩ := blk3 hY5
  obtain ⟨cZ0, cZ1, cZ2⟩ := blk3 hZ5
  obtain ⟨cW0, cW1, cW2⟩ := blk3 hW4
  have hcur : Below w5.heap.size w5 w5.drew := Below.drew (Below.refl _ w5)
  have hsc := (same_iff m m).2 rfl
  have hsx := (same_iff (⟨m.kind, m.nums, []⟩ : Mg) ⟨m.kind, m.nums, []⟩).2 rfl
  have HSC := Lib.hid hsc
  have HSX := Lib.hid hsx
  have hqq : (same m n == same m n) = true := by simp
  clear hsc hsx
  generalize hq : same m n = q at *
  have HQ := Lib.hid hq
  clear hq
  go_region_held3 (fun w' => w'.cell? ⟨w.heap.size, 0, none⟩ = some (.int .i64 m.kind) ∧ w'.cell? ⟨w.heap.size, 1, none⟩ = some (.slice A m.nums.length c) ∧ w'.cell? ⟨w.heap.size, 2, none⟩ = some (.slice B m.data.length d)
      ∧ w'.cell? ⟨w.heap.size + 1, 0, none⟩ = some (.int .i64 n.kind) ∧ w'.cell? ⟨w.heap.size + 1, 1, none⟩ = some (.slice A2 n.nums.length c2) ∧ w'.cell? ⟨w.heap.size + 1, 2, none⟩ = some (.slice B2 n.data.length e2)
      ∧ w'.cell? ⟨g3, 0, none⟩ = some (.int .i64 m.kind) ∧ w'.cell? ⟨g3, 1, none⟩ = some (.slice (some ⟨g1, 0, none⟩) m.nums.length (m.nums.length + 1)) ∧ w'.cell? ⟨g3, 2, none⟩ = some (.slice (some ⟨g2, 0, none⟩) m.data.length (m.data.length + 2))
      ∧ w'.cell? ⟨g5, 0, none⟩ = some (.int .i64 m.kind) ∧ w'.cell? ⟨g5, 1, none⟩ = some (.slice A5 m.nums.length c5) ∧ w'.cell? ⟨g5, 2, none⟩ = some (.slice none 0 0))
    (exact ⟨cell_keep hcur cX0, cell_keep hcur cX1, cell_keep hcur cX2, cell_keep hcur cY0, cell_keep hcur cY1, cell_keep hcur cY2, cell_keep hcur cZ0, cell_keep hcur cZ1, cell_keep hcur cZ2, cell_keep hcur cW0, cell_keep hcur cW1, cell_keep hcur cW2⟩)
    (first
      | (go_at_call 20; (with_reducible refine (rsame_any m n _ _ _ (hw5.below hcur) (hn5.below hcur) (by omega)).mono ?_); rintro e w6 ⟨rfl, hb6⟩; rw [HQ.out]; replace hcur := below_call hcur hb6)
      | (go_at_call 23; (with_reducible refine (same_any m n _ _ _ (hw5.below hcur) (hn5.below hcur) (by omega)).mono ?_); rintro e w6 ⟨rfl, hb6⟩; rw [HQ.out]; replace hcur := below_call hcur hb6)
      | (go_at_call 23; (with_reducible refine (same_any m m _ _ _ (hw5.below hcur) (hC5.below hcur) (by omega)).mono ?_); rintro e w6 ⟨rfl, hb6⟩; rw [HSC.out]; replace hcur := below_call hcur hb6)
      | (go_at_call 20; (with_reducible refine (rsame_any ⟨m.kind, m.nums, []⟩ ⟨m.kind, m.nums, []⟩ _ _ _ (hx5.below hcur) (hr5.below hcur) (by show m.nums.length ≤ _; omega)).mono ?_); rintro e w6 ⟨rfl, hb6⟩; rw [HSX.out]; replace hcur := below_call hcur hb6))
  all_goals
    clear cX0 cX1 cX2 cY0 cY1 cY2 cZ0 cZ1 cZ2 cW0 cW1 cW2
    have hX6 := hX5.kept hcur
    have hZ6 := hZ5.kept hcur
    have hW6 := hW4.kept hcur
    have hown6 := own_below hown5 hcur
    have hb36 := below_call hb34 hcur
    obtain ⟨cW0, cW1, cW2⟩ := blk3 hW6
    go_wp2_with fail
    obtain ⟨xs, hxs⟩ : ∃ xs : List Value, w6.ownsRow w3.heap.size 3 1 (.slice A5 m.nums.length c5) m.nums.length xs := ⟨_, hown6⟩
    have hg6 : ∀ g, (Value.slice A5 m.nums.length c5).ownBlock = some g → w3.heap.size ≤ g ∧ g < g5 := fun g hg => ⟨(hown5.lt g hg).1, hgl g hg⟩
    have HG6 := Lib.hid hg6
    have hs36 := hb36.size
    clear hg6 hgl hown6 hcur hown5 hX5 hY5 hZ5 hW4 hw5 hn5 hC5 hr5 hx5 HSC HSX HQ hqq cW0 cW2
    generalize hN : m.nums.length = N at *
    have HN := Lib.hid hN
    clear hN
    go_loopw [42] (fun i wr => ∃ (k : Nat) (ys : List Value), k ≤ N ∧ i = .int .i64 (k : Int) ∧ wr.ownsRow w3.heap.size 3 1 (.slice A5 N c5) N ys ∧ w6.grownBy wr (Value.slice A5 N c5).ownBlock) (fun i _ => N - (intOf i).toNat)
    case atStart => exact ⟨0, xs, Nat.zero_le _, rfl, hxs, World.grownBy.refl _ _⟩
    case round =>
      obtain ⟨k, ys, hk, rfl, hown, hgr⟩ := hrel
      have hne5 : some g5 ≠ (Value.slice A5 N c5).ownBlock := fun e => by have := HG6.out g5 e.symm; omega
      have hWr := hW6.grown hgr hne5
      obtain ⟨cW0, cW1, cW2⟩ := blk3 hWr
      by_cases hlt : k < N
      · obtain ⟨g, c9, he, hge, hgl⟩ := own_head hown (by omega)
        injection he with he1 he2 he3
        subst he1 he3
        have cc := own_cell hown k hlt
        have hyl : ys.length = N := by have := hown.1; omega
        rw [List.getElem?_eq_getElem (by omega)] at cc
        have cf := hown.frozenAt k
        have hst := hown.stored k (.int .i64 0)
        have HST := Lib.hid hst
        clear hst hxs hown
        generalize ys[k]'(by omega) = y at *
        go_wp2_with fail
        go_roundw
        case rel => exact ⟨k + 1, _, by omega, by go_num, HST.out.1, hgr.trans HST.out.2⟩
        case measure => simp [intOf]; omega
      · have hbr := hb36.grown hgr hs36 (fun g hg => (HG6.out g hg).1)
        obtain ⟨cX0, cX1, cX2⟩ := blk3 (hX3.kept hbr)
        obtain ⟨cZ0, cZ1, cZ2⟩ := blk3 (hZ3.kept hbr)
        have hmr := hm3.below hbr
        have hwr := hw3.below hbr
        have hbe := below_call hb3 hbr
        clear hxs hown hgr hX3 hZ3 hm3 hw3 hbr
        go_wp2_with fail
        (with_reducible refine (keptm_any m _ _ wr hmr hwr (by have := HN.out; omega) dl).mono ?_)
        rintro e w7 ⟨rfl, hb7⟩
        go_wp2_with fail
        go_ret
        exact ⟨rfl, below_call hbe hb7⟩

theorem CodecSamesX_walk {H : Type} {da db : DataW H} (m : Mg) (v : Value) (n : Mg) (v2 : Value) (w : World) (o : MsgIs w v da m) (b : Rows.uptoBulk da ≤ 1048576) (o2 : MsgIs w v2 db n) (b2 : Rows.uptoBulk db ≤ 1048576) :
    Calls Try.prog 7 #[v, v2] w fun e w' => e = .returned (.bool true) ∧ Below w.heap.size w w' := by
  obtain ⟨h1, h2, h3⟩ := o
  obtain ⟨h1', h2', h3'⟩ := o2
  exact CodecSames_walk m n v v2 w h1 h1' (by omega) (by omega)
end Go.Proofs.Ytgmimindhhpkgaa
