/- The document's fabric: the walk of Take. -/
import Derived.Test.YtikichifdkgobaaFabRefB
namespace Go.Proofs.Ytikichifdkgobaa
set_option linter.unusedVariables false
set_option linter.unusedSimpArgs false
open Go.RowKit

set_option maxHeartbeats 800000 in
theorem rtake_none (base gm : Nat) (last : Int) (ml : Value) (xs : List (List UInt8)) (n : Int) (w : World) (h : Rb w base gm last ml [] xs) : Calls Try.prog 27 #[.pointer (some ⟨gm, 0, none⟩), .int .i64 n] w fun e w' => e = .returned (.tuple #[ltv ⟨0, 0, 0, false⟩ (.slice none 0 0), .int .i64 6]) ∧ Below w.heap.size w w' := by
  have hal : Below w.heap.size w (w.alloc (.cells #[.int .i64 0, .int .i64 0, .int .i64 0, .bool false, .slice none 0 0] 37)) := (Below.refl _ w).alloc (Nat.le_refl _) _
  have hR : Blk (w.alloc (.cells #[.int .i64 0, .int .i64 0, .int .i64 0, .bool false, .slice none 0 0] 37)) w.heap.size 37 [.int .i64 0, .int .i64 0, .int .i64 0, .bool false, .slice none 0 0] := Blk.new w _ _
  have hF := h.below hal
  go_enter Try.func27, Try.ntmps27
  go_wp2_with fail
  generalize (w.alloc (.cells #[.int .i64 0, .int .i64 0, .int .i64 0, .bool false, .slice none 0 0] 37)) = wa at *
  (with_reducible refine (rnth_none base gm last ml xs n wa hF).mono ?_)
  rintro e w1 ⟨rfl, hb⟩
  have hR2 := hR.kept hb
  have hbw := below_call hal hb
  have hlt2 := hR2.lt
  obtain ⟨r0, r1, r2, r3, r4⟩ := blk5l hR2
  obtain ⟨g0, g1, g2, g3, g4⟩ := frz5l hR2
  go_wp2_with fail
  refine bodyPost_ret (results_cellT rfl _ _ w.heap.size 37 [.int .i64 0, .int .i64 0, .int .i64 0, .bool false, .slice none 0 0] _ rfl ((set5 hR2 _ _ _ _ _).alloc _) Try.underlying37 rfl (by kernel_rfl)) rfl ?_
  exact ⟨rfl, below_al (set5_b hbw (Nat.le_refl _) _ _ _ _ _) _⟩

theorem own_emptyS (W : World) (base : Nat) (e : TypeId) (size : Nat) (g : Nat) (hg : g = W.heap.size) (hb : base ≤ W.heap.size) : (W.alloc (.cells #[] e)).ownsRow base e size (.slice (some ⟨g, 0, none⟩) 0 0) 0 [] := by
  subst hg
  exact ⟨by simp, .inr ⟨W.heap.size, 0, #[], rfl, hb, heap_alloc_new W _, Nat.le_refl _, Nat.zero_le _, by simp, by simp⟩⟩
/-- What a take leaves. -/
def RbTk (w : World) (base gm : Nat) (last : Int) (l : List (Lh × Value)) (xs : List (List UInt8)) (p : Nat) (wx : World) : Prop :=
  ∃ ml2, Rb wx base gm last ml2 (l.take p ++ l.drop (p + 1)) (xs.take p ++ xs.drop (p + 1)) ∧ Chg w wx (fun b => b = gm) ∧ ∀ b, ml2.ownBlock = some b → w.heap.size ≤ b
theorem rbtk_step {w w1 w2 w4 : World} {base gm m p : Nat} {last : Int} {ml v2 v4 : Value} {l : List (Lh × Value)} {xs : List (List UInt8)} (hF : Rb w base gm last ml l xs) (hbs : base ≤ w.heap.size) (hlm : l.length = m + 1) (hp : p < m + 1) (hb1 : Below w.heap.size w w1) (hown2 : w2.ownsRow w.heap.size 37 5 v2 p (lcs (l.take p))) (hb2 : Below w.heap.size w w2)
    (hown4 : w4.ownsRow w.heap.size 37 5 v4 (p + (m - p)) (lcs (l.take p) ++ lcs (l.drop (p + 1)))) (hb4 : Below w.heap.size w w4) : RbTk w base gm last l xs p (w4.setCell ⟨gm, 0, none⟩ v4) := by
  have hF4 := hF.below hb4
  have hlen := take_drop_all l p (by omega)
  refine ⟨v4, ⟨hF4.blk.set_ 0 v4, ?_, ?_⟩, ?_, fun b hb => (own_lt hown4 hb).1⟩
  · rw [hlen, hlm, lcs_append, show m + 1 - 1 = p + (m - p) by omega]
    exact own_weaken (set_row hown4 hF4.blk (by decide)) hbs
  · have h1 := hF4.rows.set (i := 0) (u := v4) hF4.blk (by decide)
    rw [List.map_append, List.map_take, List.map_drop]
    exact (h1.take p).append (h1.drop (p + 1))
  · exact (Chg.of_below hb4).fresh (grown_set w4 gm 0 v4) (fun b hb _ => by injection hb with hb; exact hb.symm)
set_option maxRecDepth 100000 in
set_option maxHeartbeats 3200000 in
theorem rtake_some (base gm : Nat) (last : Int) (ml : Value) (l : List (Lh × Value)) (xs : List (List UInt8)) (n : Int) (p : Nat) (h : Lh) (A : Option Addr) (k c : Nat) (w : World) (hF : Rb w base gm last ml l xs) (hbs : base ≤ w.heap.size) (h0 : 0 < l.length) (hl : l.length ≤ 4096) (hp : pl n l.length = p) (hv : l[p]? = some (h, .slice A k c)) :
    Calls Try.prog 27 #[.pointer (some ⟨gm, 0, none⟩), .int .i64 n] w fun e w' => e = .returned (.tuple #[ltv h (.slice A k c), .int .i64 0]) ∧ RbTk w base gm last l xs p w' := by
  obtain ⟨i0, hi, hz0, hz1, hz2⟩ := info_parts info_lt
  obtain ⟨id, src, dst, ctl⟩ := h
  have hal : Below w.heap.size w (w.alloc (.cells #[.int .i64 0, .int .i64 0, .int .i64 0, .bool false, .slice none 0 0] 37)) := (Below.refl _ w).alloc (Nat.le_refl _) _
  have hR : Blk (w.alloc (.cells #[.int .i64 0, .int .i64 0, .int .i64 0, .bool false, .slice none 0 0] 37)) w.heap.size 37 [.int .i64 0, .int .i64 0, .int .i64 0, .bool false, .slice none 0 0] := Blk.new w _ _
  have hF1 := hF.below hal
  have hsl := hF.slices
  obtain ⟨g, fc, rfl, hbg, hfc⟩ := own_atS hF.own h0
  have hpl := pl_lt n l.length h0
  rw [hp] at hpl
  have hgl := hF.blk.lt
  have hws := hal.size
  go_enter Try.func27, Try.ntmps27
  go_wp2_with fail
  generalize (w.alloc (.cells #[.int .i64 0, .int .i64 0, .int .i64 0, .bool false, .slice none 0 0] 37)) = wa at *
  (with_reducible refine (rnth_some base gm last _ l xs n p ⟨id, src, dst, ctl⟩ A k c wa hF1 h0 hl hp hv).mono ?_)
  rintro e w1 ⟨rfl, hb1⟩
  have hwa := hR.lt
  have hb2 : Below wa.heap.size wa (w1.alloc (.cells #[.int .i64 id, .int .i64 src, .int .i64 dst, .bool ctl, .slice A k c] 37)) := below_al hb1 _
  have hF2 := hF1.below hb2
  have hR2 := hR.kept hb2
  have hX2 : Blk (w1.alloc (.cells #[.int .i64 id, .int .i64 src, .int .i64 dst, .bool ctl, .slice A k c] 37)) w1.heap.size 37 [.int .i64 id, .int .i64 src, .int .i64 dst, .bool ctl, .slice A k c] := Blk.new w1 _ _
  have hbw := below_call hal hb2
  have hs1 := hb1.size
  clear hv hF1 hb1 hb2 hR
  have c0 := hF2.blk.cell 0
  simp only [List.getElem?_cons_zero] at c0
  go_wp2_with fail
  generalize (w1.alloc (.cells #[.int .i64 id, .int .i64 src, .int .i64 dst, .bool ctl, .slice A k c] 37)) = wb at *
  (with_reducible refine (rplace_some n l.length p wb h0 hl hp).mono ?_)
  rintro e w3 ⟨rfl, rfl⟩
  obtain ⟨m, hlm⟩ : ∃ m, l.length = m + 1 := ⟨l.length - 1, by omega⟩
  have hr := RC.of_ownS hF2.own
  have hrt := RC.take_ hr (p * 5)
  rw [lcs_take] at hrt
  have hrd : RC w3 (if fc = p + 1 then some (⟨g, 0, none⟩ : Addr) else some ⟨g, (p + 1) * 5, none⟩) (lcs (l.drop (p + 1))) := by
    by_cases hcc : fc = p + 1
    · rw [show l.drop (p + 1) = [] from List.drop_eq_nil_of_le (by omega)]
      exact fun j u hu => by simp [lcs] at hu
    · rw [if_neg hcc]
      intro j u hu
      rw [← lcs_drop, List.getElem?_drop] at hu
      obtain ⟨ad, e, hc⟩ := hr _ u hu
      injection e with e
      subst e
      exact ⟨_, rfl, by rw [Addr.add_lit]; rw [Addr.add_lit] at hc; simpa using hc⟩
  obtain ⟨D, hD⟩ : ∃ D, (if fc = p + 1 then some (⟨g, 0, none⟩ : Addr) else some ⟨g, (p + 1) * 5, none⟩) = D := ⟨_, rfl⟩
  rw [hD] at hrd
  have e1 : Below w3.heap.size w3 (w3.alloc (.cells #[] 37)).drew := Below.drew ((Below.refl _ w3).alloc (Nat.le_refl _) _)
  have hrt1 := RC.below hrt e1
  have HRD := Lib.hid hrd
  have hown0 : (w3.alloc (.cells #[] 37)).drew.ownsRow w3.heap.size 37 5 (.slice (some ⟨w3.heap.size, 0, none⟩) 0 0) 0 [] := own_emptyS w3 w3.heap.size 37 5 w3.heap.size rfl (Nat.le_refl _)
  have hlt5 : (lcs (l.take p)).length = p * 5 := by rw [lcs_length, List.length_take]; omega
  have hld5 : (lcs (l.drop (p + 1))).length = (m - p) * 5 := by rw [lcs_length, List.length_drop, hlm]; omega
  have hot : ∀ u ∈ lcs (l.take p), u.oneCell' = true := fun u hu => lcs_one (l.take p) u hu (fun q hq => hsl q (List.mem_of_mem_take hq))
  have hod : ∀ u ∈ lcs (l.drop (p + 1)), u.oneCell' = true := fun u hu => lcs_one (l.drop (p + 1)) u hu (fun q hq => hsl q (List.mem_of_mem_drop hq))
  have z0 := hF2.blk.frozen 0
  have hgl2 := hF2.blk.lt
  have c0A := cell_keep e1 c0
  rw [hlm] at c0 c0A
  have HLM := Lib.hid hlm
  have hpm : p < m + 1 := by omega
  have hpf : p ≤ fc := by omega
  have hpf1 : p + 1 ≤ fc := by omega
  have q1 : (p : Int) ≤ (m : Int) + 1 := by omega
  have q2 : (p : Int) + 1 ≤ (m : Int) + 1 := by omega
  have q3 : (0 : Int) ≤ (p : Int) + 1 := by omega
  have hm4 : m ≤ 4096 := by omega
  have hF20 := Lib.hid hF2
  have w4' : IntKind.i64.wrap ((p : Int) + 1) = (p : Int) + 1 := IntWalk.i64_in _ (by omega)
  clear hr hrt hrd hlm hF2 hl h0 hp hpl hfc
  go_wp2_with fail
  go_cut [] (fun wx => Hid (RbTk w3 base gm last l xs p wx))
  case first =>
    go_region_law (first
      | ((with_reducible refine at_world (w3.alloc (.cells #[] 37)).drew ?_); refine step_app _ rfl (.tmp 27) (.tmp 33) 27 rfl w3.heap.size 37 i0 (.agg #[.int .i64 0, .int .i64 0, .int .i64 0, .bool false, .slice none 0 0]) 5 56 Try.underlying27 hi hz0 hz1 hz2 rfl (by omega) _ 0 [] rfl hown0 (some ⟨g, 0, none⟩) p fc (lcs (l.take p)) rfl hlt5 hrt1 hot (by unfold maxLen; omega) (by omega) (by simp) ?_; intro v2 w2 hown2 hg2 hat2; have hb2 : Below w3.heap.size w3 w2 := e1.grown hg2 e1.size (fun q hq => (own_lt hown0 hq).1); have c0B := cell_keep hb2 c0; (try simp only [Nat.zero_add, List.nil_append] at hown2); obtain ⟨A2, k2, rfl, hk2, -, -⟩ := own_formS hown2)
      | ((with_reducible refine at_world w2 ?_); refine step_app _ rfl (.tmp 34) (.tmp 41) 27 rfl w3.heap.size 37 i0 (.agg #[.int .i64 0, .int .i64 0, .int .i64 0, .bool false, .slice none 0 0]) 5 56 Try.underlying27 hi hz0 hz1 hz2 rfl (by omega) _ p (lcs (l.take p)) rfl hown2 D (m - p) (fc - (p + 1)) (lcs (l.drop (p + 1))) rfl hld5 (RC.below HRD.out hb2) hod (by unfold maxLen; omega) (by omega) hb2.size ?_; intro v4 w4 hown4 hg4 hat4; have hb4 : Below w3.heap.size w3 w4 := hb2.grown hg4 hb2.size (fun q hq => (own_lt hown2 hq).1); have hF4 := hF20.out.blk.kept hb4; have d4 := hF4.cell 0; have y4 := hF4.frozen 0; simp only [List.getElem?_cons_zero] at d4; obtain ⟨A4, k4, rfl, hk4, -, -⟩ := own_formS hown4))
    all_goals
      go_wp2_with fail
      go_meet
      exact rbtk_step hF20.out (by have := hbw.size; omega) HLM.out hpm e1 hown2 hb2 hown4 hb4
  case rest =>
    obtain ⟨ml2, hR9, hch9, hn9⟩ := hcut.out
    have hR6 := hch9.blk hR2 (by intro e; omega)
    have hX6 := hch9.blk hX2 (by intro e; omega)
    have hrl := hR6.lt
    have hgm9 := hR9.blk.lt
    have hbw3 := hbw.size
    obtain ⟨r0, r1, r2, r3, r4⟩ := blk5l hR6
    obtain ⟨g0, g1, g2, g3, g4⟩ := frz5l hR6
    obtain ⟨x0, x1, x2, x3, x4⟩ := blk5l hX6
    clear hcut
    go_wp2_with fail
    refine bodyPost_ret (results_cellT rfl _ _ w.heap.size 37 [.int .i64 id, .int .i64 src, .int .i64 dst, .bool ctl, .slice A k c] _ rfl (set5 hR6 _ _ _ _ _) Try.underlying37 rfl (by kernel_rfl)) rfl ?_
    have hG := set5_g wc w.heap.size (.int .i64 id) (.int .i64 src) (.int .i64 dst) (.bool ctl) (.slice A k c)
    have hS := Chg.of hG (S := fun b => b = w.heap.size) (fun b hb => by injection hb with hb; exact hb.symm)
    refine ⟨rfl, ml2, ⟨hR9.blk.grown hG (by intro e; injection e with e; omega), ?_, ?_⟩, ?_, fun b hb => Nat.le_trans hbw3 (hn9 b hb)⟩
    · exact hS.row hR9.own (fun b hb e => by have := hn9 b hb; have := hR2.lt; omega)
    · exact hR9.rows.chg hS (fun v hv b hb e => by
        obtain ⟨x, ho⟩ := hR9.rows.mem hv
        exact own_blk_ne ho hR6 (by decide) b hb e)
    · have h1 : Chg w wc (fun b => b = gm) := (Chg.of_below hbw).trans hch9
      exact h1.fresh hG (fun b hb hlt => by injection hb with hb; omega)
end Go.Proofs.Ytikichifdkgobaa
