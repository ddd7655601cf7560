/- The walk of addr.Less. -/
import Derived.Test.YtfhdkcdhfdapbaaDoorAdLess
namespace Go.Proofs.YtfhdkcdhfdapbaaDoor
set_option linter.unusedVariables false
set_option linter.unusedSimpArgs false
open Go.RowKit Go.Sort

theorem cmpi (x y c : Int) (w : World) (h : Lib.compareInt x y = c) : Calls Tryd.prog 44 #[.int .i64 x, .int .i64 y] w fun e w' => e = .returned (.int .i64 c) ∧ w' = w := by
  rw [← h]; exact Tryd.cmp_Compare_int x y w
theorem cmpa (x y c : Int) (w : World) (h : Lib.compareInt x y = c) : Calls Tryd.prog 45 #[.int .u32 x, .int .u32 y] w fun e w' => e = .returned (.int .i64 c) ∧ w' = w := by
  rw [← h]; exact compare_addr x y w
theorem or5 (a b c d e r : Int) (A : Option Addr) (w : World) (hA : RC w A [.int .i64 a, .int .i64 b, .int .i64 c, .int .i64 d, .int .i64 e]) (h : firstNZ [a, b, c, d, e] = r) : Calls Tryd.prog 43 #[.slice A 5 5] w fun e w' => e = .returned (.int .i64 r) ∧ w' = w := by
  rw [← h]; exact or_any [a, b, c, d, e] A 5 5 w rfl hA (by omega)
set_option maxRecDepth 100000 in
set_option maxHeartbeats 6400000 in
theorem less_any (f g : Fl) (w : World) : Calls Tryd.prog 26 #[flv f, flv g] w fun e w' => e = .returned (.bool (lessB f g)) ∧ Below w.heap.size w w' := by
  have hlo := less_or f g
  have hal : Below w.heap.size w ((w.alloc (.cells #[.int .i64 f.proto, .int .u32 f.src, .int .i64 f.sp, .int .u32 f.dst, .int .i64 f.dp] 53)).alloc (.cells #[.int .i64 g.proto, .int .u32 g.src, .int .i64 g.sp, .int .u32 g.dst, .int .i64 g.dp] 53)) := below_al (below_al (Below.refl _ w) _) _
  have hB0 : Blk ((w.alloc (.cells #[.int .i64 f.proto, .int .u32 f.src, .int .i64 f.sp, .int .u32 f.dst, .int .i64 f.dp] 53)).alloc (.cells #[.int .i64 g.proto, .int .u32 g.src, .int .i64 g.sp, .int .u32 g.dst, .int .i64 g.dp] 53)) w.heap.size 53 (flc f) := (Blk.new w _ _).alloc _
  have hB1 : Blk ((w.alloc (.cells #[.int .i64 f.proto, .int .u32 f.src, .int .i64 f.sp, .int .u32 f.dst, .int .i64 f.dp] 53)).alloc (.cells #[.int .i64 g.proto, .int .u32 g.src, .int .i64 g.sp, .int .u32 g.dst, .int .i64 g.dp] 53)) (w.heap.size + 1) 53 (flc g) := blk_new (by simp)
  obtain ⟨p, s, sp_, d, dp⟩ := f
  obtain ⟨p', s', sp', d', dp'⟩ := g
  simp only at hlo
  generalize lessB _ _ = b at *
  go_enter Tryd.func26, Tryd.ntmps26
  go_upto_region 1 with (fail)
  generalize ((w.alloc (.cells #[.int .i64 p, .int .u32 s, .int .i64 sp_, .int .u32 d, .int .i64 dp] 53)).alloc (.cells #[.int .i64 p', .int .u32 s', .int .i64 sp', .int .u32 d', .int .i64 dp'] 53)) = wa at *
  obtain ⟨x0, x1, x2, x3, x4⟩ := blk5 hB0
  obtain ⟨y0, y1, y2, y3, y4⟩ := blk5 hB1
  obtain ⟨c0, hc0⟩ : ∃ c, Lib.compareInt p p' = c := ⟨_, rfl⟩
  have HC0 := Lib.hid hc0
  obtain ⟨c1, hc1⟩ : ∃ c, Lib.compareInt s s' = c := ⟨_, rfl⟩
  have HC1 := Lib.hid hc1
  obtain ⟨c2, hc2⟩ : ∃ c, Lib.compareInt sp_ sp' = c := ⟨_, rfl⟩
  have HC2 := Lib.hid hc2
  obtain ⟨c3, hc3⟩ : ∃ c, Lib.compareInt d d' = c := ⟨_, rfl⟩
  have HC3 := Lib.hid hc3
  obtain ⟨c4, hc4⟩ : ∃ c, Lib.compareInt dp dp' = c := ⟨_, rfl⟩
  have HC4 := Lib.hid hc4
  rw [hc0, hc1, hc2, hc3, hc4] at hlo
  clear hc0 hc1 hc2 hc3 hc4
  obtain ⟨r, hr⟩ : ∃ r, firstNZ [c0, c1, c2, c3, c4] = r := ⟨_, rfl⟩
  rw [hr] at hlo
  have HR := Lib.hid hr
  clear hr
  have hcur : Below wa.heap.size wa wa.drew := Below.drew (Below.refl _ _)
  have hcur2 : Below wa.heap.size wa (wa.alloc (.cells #[.int .i64 c0, .int .i64 c1, .int .i64 c2, .int .i64 c3, .int .i64 c4] 3)).drew := Below.drew (below_al (Below.refl _ _) _)
  have hrc : RC (wa.alloc (.cells #[.int .i64 c0, .int .i64 c1, .int .i64 c2, .int .i64 c3, .int .i64 c4] 3)).drew (some ⟨wa.heap.size, 0, none⟩) [.int .i64 c0, .int .i64 c1, .int .i64 c2, .int .i64 c3, .int .i64 c4] := rc_new wa [.int .i64 c0, .int .i64 c1, .int .i64 c2, .int .i64 c3, .int .i64 c4] 3
  go_region_held3 (fun w' => w'.cell? ⟨w.heap.size, 0, none⟩ = some (.int .i64 p) ∧ w'.cell? ⟨w.heap.size, 1, none⟩ = some (.int .u32 s) ∧ w'.cell? ⟨w.heap.size, 2, none⟩ = some (.int .i64 sp_) ∧ w'.cell? ⟨w.heap.size, 3, none⟩ = some (.int .u32 d) ∧ w'.cell? ⟨w.heap.size, 4, none⟩ = some (.int .i64 dp)
      ∧ w'.cell? ⟨w.heap.size + 1, 0, none⟩ = some (.int .i64 p') ∧ w'.cell? ⟨w.heap.size + 1, 1, none⟩ = some (.int .u32 s') ∧ w'.cell? ⟨w.heap.size + 1, 2, none⟩ = some (.int .i64 sp') ∧ w'.cell? ⟨w.heap.size + 1, 3, none⟩ = some (.int .u32 d') ∧ w'.cell? ⟨w.heap.size + 1, 4, none⟩ = some (.int .i64 dp'))
    (first | (with_reducible exact ⟨cell_keep hcur x0, cell_keep hcur x1, cell_keep hcur x2, cell_keep hcur x3, cell_keep hcur x4, cell_keep hcur y0, cell_keep hcur y1, cell_keep hcur y2, cell_keep hcur y3, cell_keep hcur y4⟩) | (with_reducible exact ⟨cell_keep hcur2 x0, cell_keep hcur2 x1, cell_keep hcur2 x2, cell_keep hcur2 x3, cell_keep hcur2 x4, cell_keep hcur2 y0, cell_keep hcur2 y1, cell_keep hcur2 y2, cell_keep hcur2 y3, cell_keep hcur2 y4⟩))
    (first
      | (go_at_call 44; (with_reducible refine (cmpi p p' c0 _ HC0.out).mono ?_); rintro e w9 ⟨rfl, rfl⟩)
      | (go_at_call 44; (with_reducible refine (cmpi sp_ sp' c2 _ HC2.out).mono ?_); rintro e w9 ⟨rfl, rfl⟩)
      | (go_at_call 44; (with_reducible refine (cmpi dp dp' c4 _ HC4.out).mono ?_); rintro e w9 ⟨rfl, rfl⟩)
      | (go_at_call 45; (with_reducible refine (cmpa s s' c1 _ HC1.out).mono ?_); rintro e w9 ⟨rfl, rfl⟩)
      | (go_at_call 45; (with_reducible refine (cmpa d d' c3 _ HC3.out).mono ?_); rintro e w9 ⟨rfl, rfl⟩)
      | (go_at_call 43; (with_reducible refine (or5 c0 c1 c2 c3 c4 r _ _ hrc HR.out).mono ?_); rintro e w9 ⟨rfl, rfl⟩))
  all_goals
    have hc9 := below_call hal hcur2
    clear x0 x1 x2 x3 x4 y0 y1 y2 y3 y4 hB0 hB1
    go_wp2_with fail
    go_ret
    exact ⟨by simp [go_sem, hlo], hc9⟩
end Go.Proofs.YtfhdkcdhfdapbaaDoor
