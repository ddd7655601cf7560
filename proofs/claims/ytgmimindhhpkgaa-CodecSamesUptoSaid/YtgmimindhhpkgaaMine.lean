/- The walk of the laws' own copy of a message. -/
import Derived.Test.YtgmimindhhpkgaaAlive06
import Derived.Test.YtgmimindhhpkgaaMsgOpen
import Derived.Test.YtgmimindhhpkgaaCopy
import Derived.Deep.RegionHeld3
namespace Go.Proofs.Ytgmimindhhpkgaa
set_option linter.unusedVariables false
set_option linter.unusedSimpArgs false
open Go.RowKit

theorem own_mk {W : World} {base g n : Nat} {Z : Array Value} (hg : g = W.heap.size) (hb : base ≤ W.heap.size) (hn : n ≤ maxLen) (hZ : Z.size = n * 1) :
    (W.alloc (.cells Z 3)).ownsRow base 3 1 (.slice (some ⟨g, 0, none⟩) 0 n) 0 [] := by
  subst hg
  exact World.ownsRow_made W Z n hb hn hZ
theorem blk_new {W : World} {g : Nat} {t : TypeId} {cs : List Value} (hg : g = W.heap.size) : Blk (W.alloc (.cells cs.toArray t)) g t cs := by
  subst hg
  exact Blk.new W t cs

theorem undrew {B : Nat} {a w : World} (h : Below B a w.drew) : Below B a w := ⟨h.os, h.tape, h.output, h.size, h.block⟩
theorem below_al {a w : World} (h : Below a.heap.size a w) (o : Obj) : Below a.heap.size a (w.alloc o) := h.alloc h.size o
theorem below_call {a w w' : World} (h : Below a.heap.size a w) (hb : Below w.heap.size w w') : Below a.heap.size a w' := h.trans (hb.mono h.size)
theorem blk_drew {w : World} {g : Nat} {t : TypeId} {cs : List Value} (h : Blk w g t cs) : Blk w.drew g t cs := h
theorem blk_undrew {w : World} {g : Nat} {t : TypeId} {cs : List Value} (h : Blk w.drew g t cs) : Blk w g t cs := h
/-- What the copy of a message is. -/
def MineIs (w : World) (v : Value) (m : Mg) : Prop := ∃ g1 g2, v = .agg #[.int .i64 m.kind, .slice (some ⟨g1, 0, none⟩) m.nums.length (m.nums.length + 1), .slice (some ⟨g2, 0, none⟩) m.data.length (m.data.length + 2)] ∧
  Blk w g1 3 ((m.nums ++ [-77]).map iv) ∧ Blk w g2 5 ((marked m.data).map bv)

theorem at_world {P : Program} {o : Oper} {a : Act} {K : Act → World → Prop} {Q : Exit → Act → World → Prop} {E c : Prop} [Decidable c] (W : World) (h : if c then Oper.wp P o a W K Q else E) : if c then Oper.wp P o a W K Q else E := h
theorem at_call {P : Program} {f : Nat} {args : Array Value} {R : Ending → World → Prop} (W : World) (h : Calls P f args W R) : Calls P f args W R := h
theorem at_blk {g : Nat} {t : TypeId} {cs : List Value} (W : World) (h : Blk W g t cs) : Blk W g t cs := h
theorem blk_gr {w w' : World} {g : Nat} {t : TypeId} {cs : List Value} {row : Option Nat} (hg : w.grownBy w' row) (hne : some g ≠ row) (h : Blk w g t cs) : Blk w' g t cs := h.grown hg hne
theorem blk_al {w : World} {g : Nat} {t : TypeId} {cs : List Value} {o : Obj} (h : Blk w g t cs) : Blk (w.alloc o) g t cs := h.alloc o
theorem blk_ald {w : World} {g : Nat} {t : TypeId} {cs : List Value} {o : Obj} (h : Blk w.drew g t cs) : Blk (w.alloc o).drew g t cs := (blk_undrew h).alloc o
theorem blk_st3 {w : World} {g b i j k : Nat} {t : TypeId} {cs : List Value} {u v x : Value} (hne : g ≠ b) (h : Blk w g t cs) : Blk (((w.setCell ⟨b, i, none⟩ u).setCell ⟨b, j, none⟩ v).setCell ⟨b, k, none⟩ x) g t cs := ((h.far hne _).far hne _).far hne _
theorem below_gr {a w w' : World} {g : Nat} (hg : w.grownBy w' (some g)) (hge : a.heap.size ≤ g) (h : Below a.heap.size a w) : Below a.heap.size a w' := grown_below h hg hge
theorem below_cl {a w w' : World} (hb : Below w.heap.size w w') (h : Below a.heap.size a w) : Below a.heap.size a w' := below_call h hb
theorem below_all {a w : World} {o : Obj} (h : Below a.heap.size a w) : Below a.heap.size a (w.alloc o) := below_al h o
theorem below_ald {a w : World} {o : Obj} (h : Below a.heap.size a w.drew) : Below a.heap.size a (w.alloc o).drew := Below.drew (below_al (undrew h) o)
theorem below_st3 {a w : World} {b i j k : Nat} {u v x : Value} (hne : a.heap.size ≤ b) (h : Below a.heap.size a w) : Below a.heap.size a (((w.setCell ⟨b, i, none⟩ u).setCell ⟨b, j, none⟩ v).setCell ⟨b, k, none⟩ x) := ((h.setCell hne _).setCell hne _).setCell hne _

set_option maxHeartbeats 6400000 in
theorem mine_any (m : Mg) (v : Value) (w : World) (hv : MgV w v m) (nl : m.nums.length ≤ 1048576) (dl : m.data.length ≤ 1048576) :
    Calls Try.prog 12 #[v] w fun e w' => ∃ v', e = .returned v' ∧ MineIs w' v' m ∧ Below w.heap.size w w' := by
  obtain ⟨A, c, B, d, rfl, lc, ld, hA, hB, hI, hK⟩ := id hv
  clear hI hK
  obtain ⟨i0, hi, hz0, hz1, hz2⟩ := info_parts info_int
  have hwn : IntKind.i64.wrap ((m.nums.length : Int) + 1) = (m.nums.length : Int) + 1 := IntWalk.i64_in _ (by omega)
  obtain ⟨Z, hZ, hmk⟩ : ∃ Z : Array Value, Z.size = (m.nums.length + 1) * 1 ∧ ∀ W : World, (Instr.makeSlice 22 (.int .i64 0) (.int .i64 ((m.nums.length : Int) + 1))).run Try.prog W = .ok (.slice (some ⟨W.heap.size, 0, none⟩) 0 (m.nums.length + 1)) (W.alloc (.cells Z 3)) :=
    ⟨madeCells (Value.int .i64 0).cells ((m.nums.length + 1) * 1), size_madeCells _ _, fun W => by
      have h := run_make (P := Try.prog) W 22 3 i0 (.int .i64 0) Try.underlying22 hi hz0 .i64 .i64 0 ((m.nums.length : Int) + 1) (by omega) (by omega) (by rw [hz2]; omega) (by omega)
      rw [show ((m.nums.length : Int) + 1).toNat = m.nums.length + 1 from by omega, hz1] at h
      exact h⟩
  have HZ := Lib.hid hZ
  clear hZ
  have hb0 : Below w.heap.size w ((w.alloc (.cells #[.int .i64 m.kind, .slice A m.nums.length c, .slice B m.data.length d] 25)).alloc (.cells #[.int .i64 0, .slice none 0 0, .slice none 0 0] 25)) := ((Below.refl _ w).alloc (Nat.le_refl _) _).alloc (by simp) _
  have hX : Blk ((w.alloc (.cells #[.int .i64 m.kind, .slice A m.nums.length c, .slice B m.data.length d] 25)).alloc (.cells #[.int .i64 0, .slice none 0 0, .slice none 0 0] 25)) w.heap.size 25 [.int .i64 m.kind, .slice A m.nums.length c, .slice B m.data.length d] := (Blk.new w _ _).alloc _
  have hR : Blk ((w.alloc (.cells #[.int .i64 m.kind, .slice A m.nums.length c, .slice B m.data.length d] 25)).alloc (.cells #[.int .i64 0, .slice none 0 0, .slice none 0 0] 25)) (w.heap.size + 1) 25 [.int .i64 0, .slice none 0 0, .slice none 0 0] := blk_new (by simp)
  go_enter Try.func12, Try.ntmps12
  go_upto_region 1 with fail
  generalize ((w.alloc (.cells #[.int .i64 m.kind, .slice A m.nums.length c, .slice B m.data.length d] 25)).alloc (.cells #[.int .i64 0, .slice none 0 0, .slice none 0 0] 25)) = wa at *
  obtain ⟨cX0, cX1, cX2⟩ := blk3 hX
  have hX0 : Blk wa.drew _ _ _ := hX
  have hb0d : Below w.heap.size w wa.drew := Below.drew hb0
  have hws := hR.lt
  have hbd : (m.nums.length : Int) ≤ ((m.nums.length + 1 : Nat) : Int) := by omega
  have hbd2 : m.nums.length ≤ m.nums.length + 1 := by omega
  have z1 : (0 : Int) ≤ (m.nums.length : Int) := by omega
  have z2 : (m.nums.length : Int) ≤ (m.nums.length : Int) + 1 := by omega
  have hO1 : (wa.alloc (.cells Z 3)).drew.ownsRow w.heap.size 3 1 (.slice (some ⟨wa.heap.size, 0, none⟩) 0 (m.nums.length + 1)) 0 [] := own_mk rfl (by omega) (by unfold maxLen; omega) HZ.out
  have hO2 : ((wa.alloc (.cells Z 3)).alloc (.cells #[.int .i64 (-77)] 3)).drew.ownsRow w.heap.size 3 1 (.slice (some ⟨wa.heap.size, 0, none⟩) 0 (m.nums.length + 1)) 0 [] := (own_mk rfl (by omega) (by unfold maxLen; omega) HZ.out).alloc _
  have hO3 : ((wa.alloc (.cells #[.int .i64 (-77)] 3)).alloc (.cells Z 3)).drew.ownsRow w.heap.size 3 1 (.slice (some ⟨wa.heap.size + 1, 0, none⟩) 0 (m.nums.length + 1)) 0 [] := own_mk (by simp) (by simp; omega) (by unfold maxLen; omega) HZ.out
  have hL2 : Blk ((wa.alloc (.cells Z 3)).alloc (.cells #[.int .i64 (-77)] 3)).drew (wa.heap.size + 1) 3 [.int .i64 (-77)] := blk_new (by simp)
  have hL3 : Blk ((wa.alloc (.cells #[.int .i64 (-77)] 3)).alloc (.cells Z 3)).drew wa.heap.size 3 [.int .i64 (-77)] := (blk_new rfl).alloc _
  have hB1 : Below w.heap.size w (wa.alloc (.cells Z 3)).drew := Below.drew (below_al hb0 _)
  have hB2 : Below w.heap.size w ((wa.alloc (.cells Z 3)).alloc (.cells #[.int .i64 (-77)] 3)).drew := Below.drew (below_al (below_al hb0 _) _)
  have hB3 : Below w.heap.size w ((wa.alloc (.cells #[.int .i64 (-77)] 3)).alloc (.cells Z 3)).drew := Below.drew (below_al (below_al hb0 _) _)
  have hR1 : Blk (wa.alloc (.cells Z 3)).drew (w.heap.size + 1) 25 [.int .i64 0, .slice none 0 0, .slice none 0 0] := hR.alloc _
  have hR2 : Blk ((wa.alloc (.cells Z 3)).alloc (.cells #[.int .i64 (-77)] 3)).drew (w.heap.size + 1) 25 [.int .i64 0, .slice none 0 0, .slice none 0 0] := (hR.alloc _).alloc _
  have hR3 : Blk ((wa.alloc (.cells #[.int .i64 (-77)] 3)).alloc (.cells Z 3)).drew (w.heap.size + 1) 25 [.int .i64 0, .slice none 0 0, .slice none 0 0] := (hR.alloc _).alloc _
  have hA1 := hA.below hB1
  have hA2 := hA.below hB2
  have hA3 := hA.below hB3
  go_region_held3 (fun w' => w'.cell? ⟨w.heap.size, 0, none⟩ = some (.int .i64 m.kind) ∧ w'.cell? ⟨w.heap.size, 1, none⟩ = some (.slice A m.nums.length c) ∧ w'.cell? ⟨w.heap.size, 2, none⟩ = some (.slice B m.data.length d)
      ∧ Blk w' w.heap.size 25 [.int .i64 m.kind, .slice A m.nums.length c, .slice B m.data.length d] ∧ Below w.heap.size w w')
    (first
      | exact ⟨cX0, cX1, cX2, hX0, hb0d⟩
      | (go_split_ands; refine (fun (h : Blk _ w.heap.size 25 [.int .i64 m.kind, .slice A m.nums.length c, .slice B m.data.length d]) (hb : Below w.heap.size w _) => ⟨h.cell 0, h.cell 1, h.cell 2, h, hb⟩) ?_ ?_
         · (first
           | with_reducible assumption
           | ((with_reducible refine blk_al ?_); with_reducible assumption)
           | ((with_reducible refine blk_ald ?_); with_reducible assumption)
           | ((with_reducible refine Blk.kept ?_ hbC); with_reducible assumption)
           | ((with_reducible refine blk_gr hg6 ?_ ?_); (first | (simp; done) | (simp; omega)); with_reducible assumption)
           | ((with_reducible refine blk_gr hg4 ?_ ?_); (first | (simp; done) | (simp; omega)); with_reducible assumption)
           | ((with_reducible refine blk_st3 ?_ ?_); (first | (simp; done) | omega); with_reducible assumption))
         · (first
           | with_reducible assumption
           | ((with_reducible refine below_all ?_); with_reducible assumption)
           | ((with_reducible refine below_ald ?_); with_reducible assumption)
           | ((with_reducible refine below_cl hbC ?_); with_reducible assumption)
           | ((with_reducible refine below_gr hg6 ?_ ?_); (first | omega | (simp; omega)); with_reducible assumption)
           | ((with_reducible refine below_gr hg4 ?_ ?_); (first | omega | (simp; omega)); with_reducible assumption)
           | ((with_reducible refine below_st3 ?_ ?_); (first | omega | (simp; done)); with_reducible assumption))))
    (first
      | ((with_reducible refine at_world (wa.alloc (.cells Z 3)).drew ?_); refine step_fit _ rfl (.tmp 9) (.tmp 11) 22 rfl w.heap.size 3 i0 1 Try.underlying22 hi hz1 (by omega) _ 0 (m.nums.length + 1) [] rfl hO1 A m.nums.length c (m.nums.map iv) rfl (by simp) hA1 (one_iv _) (by omega) ?_; intro w4 hrow1 hg4; have hb4 := grown_below hB1 hg4 (by omega); have hR4 := Blk.grown hR1 hg4 (by simp; omega); have hs4 := hg4.size; (try simp only [Nat.zero_add]); simp only [Nat.zero_add, List.nil_append] at hrow1)
      | ((with_reducible refine at_world ((wa.alloc (.cells Z 3)).alloc (.cells #[.int .i64 (-77)] 3)).drew ?_); refine step_fit _ rfl (.tmp 9) (.tmp 11) 22 rfl w.heap.size 3 i0 1 Try.underlying22 hi hz1 (by omega) _ 0 (m.nums.length + 1) [] rfl hO2 A m.nums.length c (m.nums.map iv) rfl (by simp) hA2 (one_iv _) (by omega) ?_; intro w4 hrow1 hg4; have hb4 := grown_below hB2 hg4 (by omega); have hR4 := Blk.grown hR2 hg4 (by simp; omega); have hs4 := hg4.size; (try simp only [Nat.zero_add]); simp only [Nat.zero_add, List.nil_append] at hrow1; have hl := hL2.grown hg4 (by simp))
      | ((with_reducible refine at_world ((wa.alloc (.cells #[.int .i64 (-77)] 3)).alloc (.cells Z 3)).drew ?_); refine step_fit _ rfl (.tmp 9) (.tmp 11) 22 rfl w.heap.size 3 i0 1 Try.underlying22 hi hz1 (by omega) _ 0 (m.nums.length + 1) [] rfl hO3 A m.nums.length c (m.nums.map iv) rfl (by simp) hA3 (one_iv _) (by omega) ?_; intro w4 hrow1 hg4; have hb4 := grown_below hB3 hg4 (by omega); have hR4 := Blk.grown hR3 hg4 (by simp; omega); have hs4 := hg4.size; (try simp only [Nat.zero_add]); simp only [Nat.zero_add, List.nil_append] at hrow1; have hl := hL3.grown hg4 (by simp))
      | ((with_reducible refine at_world w4 ?_); refine step_fit _ rfl (.tmp 12) (.tmp 13) 22 rfl w.heap.size 3 i0 1 Try.underlying22 hi hz1 (by omega) _ m.nums.length (m.nums.length + 1) (m.nums.map iv) rfl hrow1 _ 1 1 [iv (-77)] rfl rfl hl.rc (by simp [Value.oneCell']) (by omega) ?_; intro w6 hrow2 hg6; have hb6 := grown_below hb4 hg6 (by omega); have hR6 := Blk.grown hR4 hg6 (by simp; omega); have hBB := RB.below hB hb6)
      | ((with_reducible refine at_world (w4.alloc (.cells #[.int .i64 (-77)] 3)) ?_); refine step_fit _ rfl (.tmp 12) (.tmp 13) 22 rfl w.heap.size 3 i0 1 Try.underlying22 hi hz1 (by omega) _ m.nums.length (m.nums.length + 1) (m.nums.map iv) rfl (hrow1.alloc _) _ 1 1 [iv (-77)] rfl rfl (rc_at w4 [iv (-77)] _ _ rfl) (by simp [Value.oneCell']) (by omega) ?_; intro w6 hrow2 hg6; have hb6 := grown_below (below_al hb4 _) hg6 (by omega); have hR6 := Blk.grown (hR4.alloc _) hg6 (by simp; omega); have hBB := RB.below hB hb6)
      | (go_at_call 17; refine (copy_any m.data B d w6 hBB ld (by omega)).mono ?_; rintro e w5 ⟨g2, rfl, hg2, hcp, hbC⟩; have hb5 := below_call hb6 hbC; have hR5 := hR6.kept hbC; have hrow3 := own_below hrow2 hbC; have cR0 := hR5.cell 0; have cR1 := hR5.cell 1; have cR2 := hR5.cell 2; have fR0 := hR5.frozen 0; have fR1 := hR5.frozen 1; have fR2 := hR5.frozen 2; simp only [List.getElem?_cons_zero, List.getElem?_cons_succ] at cR0 cR1 cR2))
  all_goals
    go_wp2_with fail
    try rw [Exit.noGoto_ret]
    have hfin := Blk.of_own hrow3 rfl
    have hrow := hfin
    refine bodyPost_ret (results_cell1 rfl _ _ (w.heap.size + 1) 25 [.int .i64 m.kind, .slice (some ⟨_, 0, none⟩) m.nums.length (m.nums.length + 1), .slice (some ⟨g2, 0, none⟩) m.data.length (m.data.length + 2)] _ rfl (by simpa using ((hR5.set_ 0 (.int .i64 m.kind)).set_ 1 _).set_ 2 (.slice (some ⟨g2, 0, none⟩) m.data.length (m.data.length + 2))) Try.underlying25 rfl (by kernel_rfl)) rfl ?_
    have hr6 := hR6.lt
    refine ⟨_, rfl, ⟨_, g2, rfl, ?_, blk_st3 (by omega) hcp⟩, below_st3 (by omega) hb5⟩
    rw [List.map_append]
    exact blk_st3 (by omega) hrow
end Go.Proofs.Ytgmimindhhpkgaa
