/- The walk of the laws' own 'kept'. -/
import Derived.Test.YtgmimindhhpkgaaMine
namespace Go.Proofs.Ytgmimindhhpkgaa
set_option linter.unusedVariables false
set_option linter.unusedSimpArgs false
open Go.RowKit

theorem MineIs.below {w w' : World} {v : Value} {m : Mg} (h : MineIs w v m) (hb : Below w.heap.size w w') : MineIs w' v m := by
  obtain ⟨g1, g2, e, h1, h2⟩ := h
  exact ⟨g1, g2, e, h1.kept hb, h2.kept hb⟩
theorem MineIs.arg {w : World} {v : Value} {m : Mg} (h : MineIs w v m) (hI : ∀ n ∈ m.nums, I64 n) (hK : I64 m.kind) : MgV w v m := by
  obtain ⟨g1, g2, rfl, h1, h2⟩ := h
  refine ⟨_, _, _, _, rfl, by omega, by omega, ?_, marked_rb h2, hI, hK⟩
  have h3 := RC.take_ h1.rc m.nums.length
  rw [← List.map_take, List.take_append_of_le_length (Nat.le_refl _), List.take_length] at h3
  exact h3

set_option maxHeartbeats 3200000 in
theorem keptm_any (m : Mg) (v u : Value) (w : World) (hc : MineIs w v m) (hu : MgV w u m) (nl : m.nums.length ≤ 1048576) (dl : m.data.length ≤ 1048576) :
    Calls Try.prog 16 #[v, u] w fun e w' => e = .returned (.bool true) ∧ Below w.heap.size w w' := by
  obtain ⟨A, c, B, d, rfl, lc, ld, hA, hB, hI, hK⟩ := id hu
  have hv := hc.arg hI hK
  obtain ⟨g1, g2, rfl, h1, h2⟩ := id hc
  have hwn : IntKind.i64.wrap ((m.nums.length : Int) + 1) = (m.nums.length : Int) + 1 := IntWalk.i64_in _ (by omega)
  have ht : (((-77 : Int)) == (-77)) = true := rfl
  have hb0 : Below w.heap.size w ((w.alloc (.cells #[.int .i64 m.kind, .slice (some ⟨g1, 0, none⟩) m.nums.length (m.nums.length + 1), .slice (some ⟨g2, 0, none⟩) m.data.length (m.data.length + 2)] 25)).alloc (.cells #[.int .i64 m.kind, .slice A m.nums.length c, .slice B m.data.length d] 25)) :=
    ((Below.refl _ w).alloc (Nat.le_refl _) _).alloc (by simp) _
  have hX : Blk ((w.alloc (.cells #[.int .i64 m.kind, .slice (some ⟨g1, 0, none⟩) m.nums.length (m.nums.length + 1), .slice (some ⟨g2, 0, none⟩) m.data.length (m.data.length + 2)] 25)).alloc (.cells #[.int .i64 m.kind, .slice A m.nums.length c, .slice B m.data.length d] 25)) w.heap.size 25 [.int .i64 m.kind, .slice (some ⟨g1, 0, none⟩) m.nums.length (m.nums.length + 1), .slice (some ⟨g2, 0, none⟩) m.data.length (m.data.length + 2)] := (Blk.new w _ _).alloc _
  have hY : Blk ((w.alloc (.cells #[.int .i64 m.kind, .slice (some ⟨g1, 0, none⟩) m.nums.length (m.nums.length + 1), .slice (some ⟨g2, 0, none⟩) m.data.length (m.data.length + 2)] 25)).alloc (.cells #[.int .i64 m.kind, .slice A m.nums.length c, .slice B m.data.length d] 25)) (w.heap.size + 1) 25 [.int .i64 m.kind, .slice A m.nums.length c, .slice B m.data.length d] := blk_new (by simp)
  have h1' := h1.kept hb0
  have h2' := h2.kept hb0
  have hv' := hv.below hb0
  have hu' := hu.below hb0
  have hB' := RB.below hB hb0
  clear h1 h2 hv hu hc hA hB hI hK
  have c77 := h1'.cell m.nums.length
  rw [List.getElem?_map, List.getElem?_append_right (Nat.le_refl _), Nat.sub_self] at c77
  simp only [List.getElem?_cons_zero, Option.map_some] at c77
  go_enter Try.func16, Try.ntmps16
  go_upto_region 1 with fail
  generalize ((w.alloc (.cells #[.int .i64 m.kind, .slice (some ⟨g1, 0, none⟩) m.nums.length (m.nums.length + 1), .slice (some ⟨g2, 0, none⟩) m.data.length (m.data.length + 2)] 25)).alloc (.cells #[.int .i64 m.kind, .slice A m.nums.length c, .slice B m.data.length d] 25)) = wa at *
  obtain ⟨cX0, cX1, cX2⟩ := blk3 hX
  obtain ⟨cY0, cY1, cY2⟩ := blk3 hY
  have z1 : (0 : Int) ≤ (m.nums.length : Int) := by omega
  have z2 : (0 : Int) ≤ (m.nums.length : Int) + 1 := by omega
  have z3 : (m.nums.length : Int) + 1 ≤ ((m.nums.length + 1 : Nat) : Int) := by omega
  have z4 : (m.nums.length : Int) < (m.nums.length : Int) + 1 := by omega
  have z5 : (m.nums.length : Int) < ((m.nums.length + 1 : Nat) : Int) := by omega
  have z6 : (m.nums.length : Int) + 1 ≤ (m.nums.length : Int) + 1 := by omega
  have hvd : MgV wa.drew _ m := hv'
  have hud : MgV wa.drew _ m := hu'
  have hsm := (same_iff m m).2 rfl
  have HSM := Lib.hid hsm
  clear hsm
  go_region_held3 (fun w' => w'.cell? ⟨w.heap.size, 0, none⟩ = some (.int .i64 m.kind) ∧ w'.cell? ⟨w.heap.size, 1, none⟩ = some (.slice (some ⟨g1, 0, none⟩) m.nums.length (m.nums.length + 1)) ∧ w'.cell? ⟨w.heap.size, 2, none⟩ = some (.slice (some ⟨g2, 0, none⟩) m.data.length (m.data.length + 2))
      ∧ w'.cell? ⟨w.heap.size + 1, 0, none⟩ = some (.int .i64 m.kind) ∧ w'.cell? ⟨w.heap.size + 1, 1, none⟩ = some (.slice A m.nums.length c) ∧ w'.cell? ⟨w.heap.size + 1, 2, none⟩ = some (.slice B m.data.length d)
      ∧ w'.cell? ⟨g1, m.nums.length, none⟩ = some (.int .i64 (-77)))
    (first
      | exact ⟨cX0, cX1, cX2, cY0, cY1, cY2, c77⟩
      | exact ⟨cell_keep hb4 cX0, cell_keep hb4 cX1, cell_keep hb4 cX2, cell_keep hb4 cY0, cell_keep hb4 cY1, cell_keep hb4 cY2, cell_keep hb4 c77⟩
      | exact ⟨cell_keep hb6 (cell_keep hb4 cX0), cell_keep hb6 (cell_keep hb4 cX1), cell_keep hb6 (cell_keep hb4 cX2), cell_keep hb6 (cell_keep hb4 cY0), cell_keep hb6 (cell_keep hb4 cY1), cell_keep hb6 (cell_keep hb4 cY2), cell_keep hb6 (cell_keep hb4 c77)⟩)
    (first
      | (go_at_call 20; refine (rsame_any m m _ _ wa.drew hvd hud (by omega)).mono ?_; rintro e w4 ⟨rfl, hb4⟩; rw [HSM.out])
      | (go_at_call 21; refine (kept_any m.data g2 B d w4 (RB.below (show RB wa.drew B m.data from hB') hb4) ((show Blk wa.drew g2 _ _ from h2').kept hb4) (by omega)).mono ?_; rintro e w6 ⟨rfl, hb6⟩))
  all_goals
    go_wp2_with fail
    go_ret
    exact ⟨rfl, ((Below.drew hb0).trans (hb4.mono hb0.size)).trans (hb6.mono (Nat.le_trans hb0.size hb4.size))⟩
end Go.Proofs.Ytgmimindhhpkgaa
