/- The fixed fact of layer 7. -/
import Derived.Test.YtkgkbmiacomhdaaQu
namespace Go.Proofs.Ytkgkbmiacomhdaa
set_option linter.unusedVariables false
set_option linter.unusedSimpArgs false
open Go.RowKit Go.Conc

set_option maxHeartbeats 1600000 in
theorem alive_any (w : World) : Calls Try.prog 8 #[] w fun e w' => e = .returned (.bool true) ∧ Below w.heap.size w w' := by
  have kc := fun (W : World) (g : Nat) (C : Array Value) (n c : Nat) (hg : g = W.heap.size) => run_const (P := Try.prog) 42 5 Try.underlying42 Try.underlying5 W g C n c hg
  go_enter Try.func8, Try.ntmps8
  go_wp2_with fail
  (with_reducible refine (new_i 2 2 w (by omega) rfl).mono ?_)
  rintro e w1 ⟨rfl, hq1, hb1⟩
  go_wp2_with fail
  have hRP : RP ((((w1.alloc (.cells #[.int .u8 97] 5 (1, 2))).alloc (.cells #[.int .u8 98] 5 (1, 2))).alloc (.cells #[.int .u8 99] 5 (1, 2))).alloc
      (.cells #[.slice (some ⟨w1.heap.size, 0, none⟩) 1 1, .slice (some ⟨w1.heap.size + 1, 0, none⟩) 1 1, .slice (some ⟨w1.heap.size + 1 + 1, 0, none⟩) 1 1] 42)) (some ⟨w1.heap.size + 1 + 1 + 1, 0, none⟩) [[97], [98], [99]] := by
    refine rp3 _ _ _ _ _ 1 1 1 [97] [98] [99] (by simp) (by simp) (by simp) ?_ ?_ ?_ (by simp)
    · exact ((rb_mark w1 5 (1, 2) [97] rfl).below ((Below.refl _ _).alloc (Nat.le_refl _) _)).below ((Below.refl _ _).alloc (Nat.le_refl _) _)
    · exact (rb_mark (w1.alloc (.cells #[.int .u8 97] 5 (1, 2))) 5 (1, 2) [98] (by simp)).below ((Below.refl _ _).alloc (Nat.le_refl _) _)
    · exact rb_mark ((w1.alloc (.cells #[.int .u8 97] 5 (1, 2))).alloc (.cells #[.int .u8 98] 5 (1, 2))) 5 (1, 2) [99] (by simp)
  have hq2 := (((hq1.alloc (.cells #[.int .u8 97] 5 (1, 2))).alloc (.cells #[.int .u8 98] 5 (1, 2))).alloc (.cells #[.int .u8 99] 5 (1, 2))).alloc
      (.cells #[.slice (some ⟨w1.heap.size, 0, none⟩) 1 1, .slice (some ⟨w1.heap.size + 1, 0, none⟩) 1 1, .slice (some ⟨w1.heap.size + 1 + 1, 0, none⟩) 1 1] 42)
  have hb2 : Below w.heap.size w ((((w1.alloc (.cells #[.int .u8 97] 5 (1, 2))).alloc (.cells #[.int .u8 98] 5 (1, 2))).alloc (.cells #[.int .u8 99] 5 (1, 2))).alloc
      (.cells #[.slice (some ⟨w1.heap.size, 0, none⟩) 1 1, .slice (some ⟨w1.heap.size + 1, 0, none⟩) 1 1, .slice (some ⟨w1.heap.size + 1 + 1, 0, none⟩) 1 1] 42)) := below_al (below_al (below_al (below_al hb1 _) _) _) _
  generalize w1.heap.size + 1 + 1 + 1 = gx at *
  generalize ((((w1.alloc (.cells #[.int .u8 97] 5 (1, 2))).alloc (.cells #[.int .u8 98] 5 (1, 2))).alloc (.cells #[.int .u8 99] 5 (1, 2))).alloc
      (.cells #[.slice (some ⟨w1.heap.size, 0, none⟩) 1 1, .slice (some ⟨w1.heap.size + 1, 0, none⟩) 1 1, .slice (some ⟨w1.heap.size + 1 + 1, 0, none⟩) 1 1] 42)) = w2 at *
  (with_reducible refine (put_n (w.heap.size + 1) w.heap.size 2 3 [] [[97], [98], [99]] (some ⟨gx, 0, none⟩) 3 w2 hq2 (by simp) (by omega) hRP rfl (by omega) (by intro x hx; simp at hx; rcases hx with rfl | rfl | rfl <;> simp)).mono ?_)
  rintro e w3 ⟨n, rfl, news, rfl, hnl, hq3, ho3, hg3⟩
  obtain ⟨v0, v1, rfl⟩ : ∃ v0 v1, news = [v0, v1] := by
    match news, hnl with
    | [v0, v1], _ => exact ⟨v0, v1, rfl⟩
  have hw3 : Below w.heap.size w w3 := hb2.grown hg3 hb2.size (fun k hk => by injection hk with hk; omega)
  obtain ⟨A0, c0, rfl, hc0, hR0, -⟩ := own_form (ho3.own 0 v0 [97] rfl rfl)
  have hq3' : Qc w3 (w.heap.size + 1) w.heap.size 2 [.slice A0 1 c0, v1] := hq3
  clear kc hRP hq1 hq2 hb1 hb2 hnl hg3 ho3 hq3
  go_wp2_with fail
  (with_reducible refine (get_some (w.heap.size + 1) w.heap.size 2 _ [v1] w3 hq3').mono ?_)
  rintro e w4 ⟨rfl, hq4, hg4⟩
  have hR4 : RB w4 A0 [97] := RC.chan hR0 hq3'.2 hg4
  have hw4 : Below w.heap.size w w4 := hw3.grown hg4 hw3.size (fun k hk => by injection hk with hk; omega)
  have s1 := run_str (P := Try.prog) _ _ _ _ Try.underlying42 Try.underlying5 Try.underlying9 _ 1 c0 _ hR4 rfl
  have hcm : ((bs [97]).toList == [97]) = true := by rw [bs_toList]; rfl
  generalize bs [97] = q at *
  clear hg4 hq3' hR0
  go_wp2_with fail
  (with_reducible refine (len_i (w.heap.size + 1) w.heap.size 2 [v1] 1 w4 hq4 rfl).mono ?_)
  rintro e w5 ⟨rfl, rfl⟩
  go_wp2_with fail
  (with_reducible refine (room_i (w.heap.size + 1) w.heap.size 2 [v1] 1 w5 hq4 (by simp) (by omega) rfl).mono ?_)
  rintro e w6 ⟨rfl, k, rfl⟩
  go_wp2_with fail
  go_ret
  exact ⟨rfl, below_drewN hw4 k⟩
end Go.Proofs.Ytkgkbmiacomhdaa
