/- The walk of codec.TakeFlow where there is a flow. -/
import Derived.Test.YtgmimindhhpkgaaTakeFlow
namespace Go.Proofs.Ytgmimindhhpkgaa
set_option linter.unusedVariables false
set_option linter.unusedSimpArgs false
open Go.RowKit

theorem own_far5 {w : World} {base b e size n : Nat} {v : Value} {xs : List Value} {x0 x1 x2 x3 x4 : Value} (hb : b < base) (h : w.ownsRow base e size v n xs) :
    (((((w.setCell ⟨b, 0, none⟩ x0).setCell ⟨b, 1, none⟩ x1).setCell ⟨b, 2, none⟩ x2).setCell ⟨b, 3, none⟩ x3).setCell ⟨b, 4, none⟩ x4).ownsRow base e size v n xs := own_set hb (own_set hb (own_set hb (own_set hb (own_set hb h))))
set_option maxHeartbeats 3200000 in
theorem takeflow_good (f : Fl) (rest : List Int) (A : Option Addr) (c : Nat) (w : World) (hA : RC w A ((f.proto :: f.src :: f.sp :: f.dst :: f.dp :: rest).map iv)) (hc : rest.length + 5 ≤ c) (hn : rest.length ≤ 2000000) (hf : IsTf (f.proto :: f.src :: f.sp :: f.dst :: f.dp :: rest) f rest) :
    Calls Try.prog 26 #[.slice A (rest.length + 5) c] w fun e w' => ∃ v, e = .returned (.tuple #[flv f, v, .nilIface]) ∧ w'.ownsRow (w.heap.size + 1) 3 1 v rest.length (rest.map iv) ∧ Below w.heap.size w w' := by
  obtain ⟨p, s, sp, d, dp⟩ := f
  obtain ⟨-, ⟨h1, h2⟩, ⟨h3, h4⟩, h5⟩ := hf
  simp only at h1 h2 h3 h4 hA
  have hb1 : Below w.heap.size w (w.alloc (.cells #[.int .i64 0, .int .u32 0, .int .i64 0, .int .u32 0, .int .i64 0] 56)) := (Below.refl _ w).alloc (Nat.le_refl _) _
  have hG : Blk (w.alloc (.cells #[.int .i64 0, .int .u32 0, .int .i64 0, .int .u32 0, .int .i64 0] 56)) w.heap.size 56 (flc fl0) := Blk.new w _ _
  obtain ⟨ad, rfl, c0, c1, c2, c3, c4⟩ := five hA
  have hA' := hA.below hb1
  have hD := RC.drop_ (n := rest.length + 5) (c := c) hA (by simp) 5 (by omega) hc
  simp only [List.map_cons, List.drop_succ_cons, List.drop_zero] at hD
  have HD := Lib.hid (hD.below hb1)
  clear hA hA' hD
  have c0' := cell_keep hb1 c0
  have c1' := cell_keep hb1 c1
  have c2' := cell_keep hb1 c2
  have c3' := cell_keep hb1 c3
  have c4' := cell_keep hb1 c4
  clear c0 c1 c2 c3 c4
  obtain ⟨n, hnr⟩ : ∃ n, n = rest.length + 5 := ⟨_, rfl⟩
  rw [← hnr] at hc ⊢
  have hnr2 : n - 5 = rest.length := by omega
  have HN := Lib.hid hnr2
  have hl5 : 5 ≤ n := by omega
  have hn2 : n ≤ 2000005 := by omega
  clear hnr hnr2
  have q1 := u32w s h1 h2
  have q2 := u32w d h3 h4
  go_enter Try.func26, Try.ntmps26
  go_upto_region 4 with ((go_at_call 41; refine (adr_yes _ _ (by omega) (by omega)).mono ?_; rintro e w' ⟨rfl, rfl⟩))
  generalize w.alloc (.cells #[.int .i64 0, .int .u32 0, .int .i64 0, .int .u32 0, .int .i64 0] 56) = wa at *
  have hl5' : ¬ (n : Int) < 5 := by omega
  have i5 : (5 : Int) ≤ (n : Int) := by omega
  have j0 : 0 < n := by omega
  have j1 : (1 : Int) < (n : Int) := by omega
  have j2 : (2 : Int) < (n : Int) := by omega
  have j3 : (3 : Int) < (n : Int) := by omega
  have j4 : (4 : Int) < (n : Int) := by omega
  have n0 := World.new_ne wa _ c0'
  have n1 := World.new_ne wa _ c1'
  have n2 := World.new_ne wa _ c2'
  have n3 := World.new_ne wa _ c3'
  have n4 := World.new_ne wa _ c4'
  go_region_held3 (fun w' => w'.cell? ad = some (iv p) ∧ w'.cell? ⟨ad.block, ad.off + 1, none⟩ = some (iv s) ∧ w'.cell? ⟨ad.block, ad.off + 2, none⟩ = some (iv sp) ∧ w'.cell? ⟨ad.block, ad.off + 3, none⟩ = some (iv d) ∧ w'.cell? ⟨ad.block, ad.off + 4, none⟩ = some (iv dp)) (go_keep) (fail)
  have hb2 := Below.drew (below_al hb1 (.cells #[.int .i64 p, .int .u32 s, .int .i64 sp, .int .u32 d, .int .i64 dp] 56))
  have hF : Blk (wa.alloc (.cells #[.int .i64 p, .int .u32 s, .int .i64 sp, .int .u32 d, .int .i64 dp] 56)).drew wa.heap.size 56 (flc ⟨p, s, sp, d, dp⟩) := Blk.new wa _ _
  have hG2 : Blk (wa.alloc (.cells #[.int .i64 p, .int .u32 s, .int .i64 sp, .int .u32 d, .int .i64 dp] 56)).drew w.heap.size 56 (flc fl0) := hG.alloc _
  go_upto_region 5 with (fail)
  have hbab : Below wa.heap.size wa (wa.alloc (.cells #[.int .i64 p, .int .u32 s, .int .i64 sp, .int .u32 d, .int .i64 dp] 56)).drew := Below.drew ((Below.refl _ wa).alloc (Nat.le_refl _) _)
  generalize (wa.alloc (.cells #[.int .i64 p, .int .u32 s, .int .i64 sp, .int .u32 d, .int .i64 dp] 56)).drew = wb at *
  obtain ⟨g1, hg1⟩ : ∃ g1, g1 = wa.heap.size := ⟨_, rfl⟩
  have hg1w : w.heap.size < g1 := by rw [hg1]; exact hG.lt
  rw [← hg1] at hF ⊢
  clear hg1
  obtain ⟨cF0, cF1, cF2, cF3, cF4⟩ := blk5 hF
  go_wp2_with fail
  (with_reducible refine (acheck_good ⟨p, s, sp, d, dp⟩ wb h5).mono ?_)
  rintro e w3 ⟨rfl, hb3⟩
  have hG3 := hG2.kept hb3
  have hF3 := hF.kept hb3
  have hb3' := below_call hb2 hb3
  have hs3 := hb3'.size
  have hgl := hG3.lt
  have hb3k := hb3
  clear hG2 hF hb3 hG cF0 cF1 cF2 cF3 cF4
  obtain ⟨cF0, cF1, cF2, cF3, cF4⟩ := blk5 hF3
  have HDD : Hid (RC w3 (if c = 5 then some ad else Option.map (fun x => x.add 5) (some ad)) (rest.map iv)) := HD.out.below (by
    exact hbab.trans (hb3k.mono hbab.size))
  clear HD hbab hb3k
  obtain ⟨dF0, dF1, dF2, dF3, dF4⟩ := blk5 (blk_drew hF3)
  have hG3d := blk_drew hG3
  have hgn : g1 ≠ w.heap.size := by omega
  have i5b : (5 : Int) ≤ (n : Int) := by omega
  go_upto_region 7 with (fail)
  by_cases hc5 : c = 5
  · subst hc5
    have hd := HDD.out
    rw [if_pos rfl] at hd
    obtain rfl : rest = [] := List.eq_nil_of_length_eq_zero (by have := HN.out; omega)
    have hcl : Calls Try.prog 40 #[.slice (some ad) 0 0] w3.drew _ := cloneI_any [] (some ad) 0 w3.drew hd (by simp) (by simp)
    have HCL := Lib.hid hcl
    clear hcl hd
    go_region_held3 (fun w' => w'.cell? ⟨g1, 0, none⟩ = some (.int .i64 p) ∧ w'.cell? ⟨g1, 1, none⟩ = some (.int .u32 s) ∧ w'.cell? ⟨g1, 2, none⟩ = some (.int .i64 sp) ∧ w'.cell? ⟨g1, 3, none⟩ = some (.int .u32 d) ∧ w'.cell? ⟨g1, 4, none⟩ = some (.int .i64 dp))
      (first | with_reducible exact ⟨dF0, dF1, dF2, dF3, dF4⟩ | with_reducible exact ⟨cF0, cF1, cF2, cF3, cF4⟩ | with_reducible exact blk5 hF4 | with_reducible exact blk5 (flow_far hgn hF4))
      (first | (go_at_call 40; (with_reducible refine HCL.out.mono ?_); rintro e w4 ⟨v4, rfl, hown4, hb4⟩; have hF4 := (blk_drew hF3).kept hb4; have hG4 := hG3d.kept hb4; obtain ⟨cG0, cG1, cG2, cG3, cG4⟩ := blk5 hG4; have fG0 := hG4.frozen 0; have fG1 := hG4.frozen 1; have fG2 := hG4.frozen 2; have fG3 := hG4.frozen 3; have fG4 := hG4.frozen 4))
    all_goals
      go_wp2_with fail
      refine bodyPost_ret (results_cellT3 rfl _ _ w.heap.size 56 (flc ⟨p, s, sp, d, dp⟩) _ rfl (flow_set (f' := ⟨p, s, sp, d, dp⟩) hG4) Try.underlying56 rfl (by kernel_rfl)) rfl ⟨_, rfl, ?_, flow_setB (below_call (Below.drew hb3') hb4) (Nat.le_refl _)⟩
      try rw [HN.out] at hown4
      exact own_far5 (by omega) (own_weaken hown4 (show w.heap.size + 1 ≤ w3.heap.size by omega))
  · have hd := HDD.out
    rw [if_neg hc5] at hd
    simp only [Option.map_some] at hd
    rw [add_pos' ad 5 (by omega)] at hd
    have hcl := cloneI_any rest (some ⟨ad.block, ad.off + 5, none⟩) (c - 5) w3.drew hd (by have := HN.out; omega) (by omega)
    rw [← HN.out] at hcl
    have HCL := Lib.hid hcl
    clear hcl hd
    go_region_held3 (fun w' => w'.cell? ⟨g1, 0, none⟩ = some (.int .i64 p) ∧ w'.cell? ⟨g1, 1, none⟩ = some (.int .u32 s) ∧ w'.cell? ⟨g1, 2, none⟩ = some (.int .i64 sp) ∧ w'.cell? ⟨g1, 3, none⟩ = some (.int .u32 d) ∧ w'.cell? ⟨g1, 4, none⟩ = some (.int .i64 dp))
      (first | with_reducible exact ⟨dF0, dF1, dF2, dF3, dF4⟩ | with_reducible exact ⟨cF0, cF1, cF2, cF3, cF4⟩ | with_reducible exact blk5 hF4 | with_reducible exact blk5 (flow_far hgn hF4))
      (first | (go_at_call 40; (with_reducible refine HCL.out.mono ?_); rintro e w4 ⟨v4, rfl, hown4, hb4⟩; have hF4 := (blk_drew hF3).kept hb4; have hG4 := hG3d.kept hb4; obtain ⟨cG0, cG1, cG2, cG3, cG4⟩ := blk5 hG4; have fG0 := hG4.frozen 0; have fG1 := hG4.frozen 1; have fG2 := hG4.frozen 2; have fG3 := hG4.frozen 3; have fG4 := hG4.frozen 4))
    all_goals
      go_wp2_with fail
      refine bodyPost_ret (results_cellT3 rfl _ _ w.heap.size 56 (flc ⟨p, s, sp, d, dp⟩) _ rfl (flow_set (f' := ⟨p, s, sp, d, dp⟩) hG4) Try.underlying56 rfl (by kernel_rfl)) rfl ⟨_, rfl, ?_, flow_setB (below_call (Below.drew hb3') hb4) (Nat.le_refl _)⟩
      try rw [HN.out] at hown4
      exact own_far5 (by omega) (own_weaken hown4 (show w.heap.size + 1 ≤ w3.heap.size by omega))
end Go.Proofs.Ytgmimindhhpkgaa
