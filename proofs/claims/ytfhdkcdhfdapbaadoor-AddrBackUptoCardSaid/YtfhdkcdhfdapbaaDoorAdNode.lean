/- The walks of Node, Of, Who and of the document's Is, Of. -/
import Derived.Test.YtfhdkcdhfdapbaaDoorAdHome
import Derived.Test.YtfhdkcdhfdapbaaDoorKind
namespace Go.Proofs.YtfhdkcdhfdapbaaDoor
set_option linter.unusedVariables false
set_option linter.unusedSimpArgs false
open Go.RowKit Go.Sort

theorem ris_0 (n : Int) (w : World) (h : n < 0) : Calls Tryd.prog 41 #[.int .i64 n] w fun e w' => e = .returned (.bool false) ∧ w' = w := by
  have f0 : (n == 0) = false := by simp; omega
  have f1 : decide ((16 : Int) ≤ n) = false := by simp; omega
  have f2 : decide (n ≤ 23) = true := by simp; omega
  have f3 : decide ((32 : Int) ≤ n) = false := by simp; omega
  have f4 : decide (n ≤ 39) = true := by simp; omega
  have f5 : decide ((48 : Int) ≤ n) = false := by simp; omega
  have f6 : decide (n ≤ 55) = true := by simp; omega
  clear h
  go_enter Tryd.func41, Tryd.ntmps41
  go_wp2
  go_ret
  exact ⟨rfl, rfl⟩
theorem ris_1 (n : Int) (w : World) (h : n = 0) : Calls Tryd.prog 41 #[.int .i64 n] w fun e w' => e = .returned (.bool true) ∧ w' = w := by
  have f0 : (n == 0) = true := by simp; omega
  have f1 : decide ((16 : Int) ≤ n) = false := by simp; omega
  have f2 : decide (n ≤ 23) = true := by simp; omega
  have f3 : decide ((32 : Int) ≤ n) = false := by simp; omega
  have f4 : decide (n ≤ 39) = true := by simp; omega
  have f5 : decide ((48 : Int) ≤ n) = false := by simp; omega
  have f6 : decide (n ≤ 55) = true := by simp; omega
  clear h
  go_enter Tryd.func41, Tryd.ntmps41
  go_wp2
  go_ret
  exact ⟨rfl, rfl⟩
theorem ris_2 (n : Int) (w : World) (h : 1 ≤ n ∧ n ≤ 15) : Calls Tryd.prog 41 #[.int .i64 n] w fun e w' => e = .returned (.bool false) ∧ w' = w := by
  have f0 : (n == 0) = false := by simp; omega
  have f1 : decide ((16 : Int) ≤ n) = false := by simp; omega
  have f2 : decide (n ≤ 23) = true := by simp; omega
  have f3 : decide ((32 : Int) ≤ n) = false := by simp; omega
  have f4 : decide (n ≤ 39) = true := by simp; omega
  have f5 : decide ((48 : Int) ≤ n) = false := by simp; omega
  have f6 : decide (n ≤ 55) = true := by simp; omega
  clear h
  go_enter Tryd.func41, Tryd.ntmps41
  go_wp2
  go_ret
  exact ⟨rfl, rfl⟩
theorem ris_3 (n : Int) (w : World) (h : 16 ≤ n ∧ n ≤ 23) : Calls Tryd.prog 41 #[.int .i64 n] w fun e w' => e = .returned (.bool true) ∧ w' = w := by
  have f0 : (n == 0) = false := by simp; omega
  have f1 : decide ((16 : Int) ≤ n) = true := by simp; omega
  have f2 : decide (n ≤ 23) = true := by simp; omega
  have f3 : decide ((32 : Int) ≤ n) = false := by simp; omega
  have f4 : decide (n ≤ 39) = true := by simp; omega
  have f5 : decide ((48 : Int) ≤ n) = false := by simp; omega
  have f6 : decide (n ≤ 55) = true := by simp; omega
  clear h
  go_enter Tryd.func41, Tryd.ntmps41
  go_wp2
  go_ret
  exact ⟨rfl, rfl⟩
theorem ris_4 (n : Int) (w : World) (h : 24 ≤ n ∧ n ≤ 31) : Calls Tryd.prog 41 #[.int .i64 n] w fun e w' => e = .returned (.bool false) ∧ w' = w := by
  have f0 : (n == 0) = false := by simp; omega
  have f1 : decide ((16 : Int) ≤ n) = true := by simp; omega
  have f2 : decide (n ≤ 23) = false := by simp; omega
  have f3 : decide ((32 : Int) ≤ n) = false := by simp; omega
  have f4 : decide (n ≤ 39) = true := by simp; omega
  have f5 : decide ((48 : Int) ≤ n) = false := by simp; omega
  have f6 : decide (n ≤ 55) = true := by simp; omega
  clear h
  go_enter Tryd.func41, Tryd.ntmps41
  go_wp2
  go_ret
  exact ⟨rfl, rfl⟩
theorem ris_5 (n : Int) (w : World) (h : 32 ≤ n ∧ n ≤ 39) : Calls Tryd.prog 41 #[.int .i64 n] w fun e w' => e = .returned (.bool true) ∧ w' = w := by
  have f0 : (n == 0) = false := by simp; omega
  have f1 : decide ((16 : Int) ≤ n) = true := by simp; omega
  have f2 : decide (n ≤ 23) = false := by simp; omega
  have f3 : decide ((32 : Int) ≤ n) = true := by simp; omega
  have f4 : decide (n ≤ 39) = true := by simp; omega
  have f5 : decide ((48 : Int) ≤ n) = false := by simp; omega
  have f6 : decide (n ≤ 55) = true := by simp; omega
  clear h
  go_enter Tryd.func41, Tryd.ntmps41
  go_wp2
  go_ret
  exact ⟨rfl, rfl⟩
theorem ris_6 (n : Int) (w : World) (h : 40 ≤ n ∧ n ≤ 47) : Calls Tryd.prog 41 #[.int .i64 n] w fun e w' => e = .returned (.bool false) ∧ w' = w := by
  have f0 : (n == 0) = false := by simp; omega
  have f1 : decide ((16 : Int) ≤ n) = true := by simp; omega
  have f2 : decide (n ≤ 23) = false := by simp; omega
  have f3 : decide ((32 : Int) ≤ n) = true := by simp; omega
  have f4 : decide (n ≤ 39) = false := by simp; omega
  have f5 : decide ((48 : Int) ≤ n) = false := by simp; omega
  have f6 : decide (n ≤ 55) = true := by simp; omega
  clear h
  go_enter Tryd.func41, Tryd.ntmps41
  go_wp2
  go_ret
  exact ⟨rfl, rfl⟩
theorem ris_7 (n : Int) (w : World) (h : 48 ≤ n ∧ n ≤ 55) : Calls Tryd.prog 41 #[.int .i64 n] w fun e w' => e = .returned (.bool true) ∧ w' = w := by
  have f0 : (n == 0) = false := by simp; omega
  have f1 : decide ((16 : Int) ≤ n) = true := by simp; omega
  have f2 : decide (n ≤ 23) = false := by simp; omega
  have f3 : decide ((32 : Int) ≤ n) = true := by simp; omega
  have f4 : decide (n ≤ 39) = false := by simp; omega
  have f5 : decide ((48 : Int) ≤ n) = true := by simp; omega
  have f6 : decide (n ≤ 55) = true := by simp; omega
  clear h
  go_enter Tryd.func41, Tryd.ntmps41
  go_wp2
  go_ret
  exact ⟨rfl, rfl⟩
theorem ris_8 (n : Int) (w : World) (h : 56 ≤ n) : Calls Tryd.prog 41 #[.int .i64 n] w fun e w' => e = .returned (.bool false) ∧ w' = w := by
  have f0 : (n == 0) = false := by simp; omega
  have f1 : decide ((16 : Int) ≤ n) = true := by simp; omega
  have f2 : decide (n ≤ 23) = false := by simp; omega
  have f3 : decide ((32 : Int) ≤ n) = true := by simp; omega
  have f4 : decide (n ≤ 39) = false := by simp; omega
  have f5 : decide ((48 : Int) ≤ n) = true := by simp; omega
  have f6 : decide (n ≤ 55) = false := by simp; omega
  clear h
  go_enter Tryd.func41, Tryd.ntmps41
  go_wp2
  go_ret
  exact ⟨rfl, rfl⟩
theorem ris_yes (n : Int) (w : World) (h : IsN n) : Calls Tryd.prog 41 #[.int .i64 n] w fun e w' => e = .returned (.bool true) ∧ w' = w := by
  rcases h with h | h | h | h
  · exact ris_1 n w h
  · exact ris_3 n w h
  · exact ris_5 n w h
  · exact ris_7 n w h
theorem ris_no (n : Int) (w : World) (h : ¬ IsN n) : Calls Tryd.prog 41 #[.int .i64 n] w fun e w' => e = .returned (.bool false) ∧ w' = w := by
  have hc : n < 0 ∨ (1 ≤ n ∧ n ≤ 15) ∨ (24 ≤ n ∧ n ≤ 31) ∨ (40 ≤ n ∧ n ≤ 47) ∨ 56 ≤ n := by unfold IsN at h; omega
  rcases hc with h | h | h | h | h
  · exact ris_0 n w h
  · exact ris_2 n w h
  · exact ris_4 n w h
  · exact ris_6 n w h
  · exact ris_8 n w h


def OKN (k p : Int) : Prop := (k = 0 ∧ p = 0) ∨ ((k = 16 ∨ k = 32 ∨ k = 48) ∧ 0 ≤ p ∧ p < 8)
set_option maxHeartbeats 400000 in
theorem node_other (k p : Int) (w : World) (h : k ≠ 0 ∧ k ≠ 16 ∧ k ≠ 32 ∧ k ≠ 48) : Calls Tryd.prog 22 #[.int .i64 k, .int .i64 p] w fun e w' => e = .returned (.tuple #[.int .i64 0, er 12]) ∧ w' = w := by
  have h0 : (k == 0) = false := beq_eq_false_iff_ne.2 h.1
  have h1 : (k == 16) = false := beq_eq_false_iff_ne.2 h.2.1
  have h2 : (k == 32) = false := beq_eq_false_iff_ne.2 h.2.2.1
  have h3 : (k == 48) = false := beq_eq_false_iff_ne.2 h.2.2.2
  clear h
  go_enter Tryd.func22, Tryd.ntmps22
  go_wp2
  go_ret2
  exact ⟨rfl, rfl⟩
theorem node_yes (k p : Int) (w : World) (h : OKN k p) : Calls Tryd.prog 22 #[.int .i64 k, .int .i64 p] w fun e w' => e = .returned (.tuple #[.int .i64 (k + p), .nilIface]) ∧ w' = w := by
  rcases h with ⟨rfl, rfl⟩ | ⟨rfl | rfl | rfl, h1, h2⟩
  · exact node_router 0 w rfl
  · exact node_16 p w ⟨h1, h2⟩
  · exact node_32 p w ⟨h1, h2⟩
  · exact node_48 p w ⟨h1, h2⟩
theorem node_no (k p : Int) (w : World) (h : ¬ OKN k p) : Calls Tryd.prog 22 #[.int .i64 k, .int .i64 p] w fun e w' => e = .returned (.tuple #[.int .i64 0, er 12]) ∧ w' = w := by
  unfold OKN at h
  by_cases h0 : k = 0
  · subst h0; exact node_router_no p w (by omega)
  by_cases h1 : k = 16
  · subst h1; exact node_16_no p w (by omega)
  by_cases h2 : k = 32
  · subst h2; exact node_32_no p w (by omega)
  by_cases h3 : k = 48
  · subst h3; exact node_48_no p w (by omega)
  · exact node_other k p w ⟨h0, h1, h2, h3⟩
theorem isN_bd {n : Int} (h : IsN n) : 0 ≤ n ∧ n < 56 := by unfold IsN at h; omega
set_option maxHeartbeats 400000 in
theorem of_yes (n : Int) (w : World) (h : IsN n) : Calls Tryd.prog 24 #[.int .i64 n] w fun e w' => e = .returned (.tuple #[.int .u32 (167772160 + n), .nilIface]) ∧ w' = w := by
  have hb := isN_bd h
  go_enter Tryd.func24, Tryd.ntmps24
  go_wp2_with fail
  (with_reducible refine (kind_yes n w h).mono ?_)
  rintro e w1 ⟨rfl, rfl⟩
  generalize kindOf n = kk at *
  go_wp2_with fail
  go_ret2
  exact ⟨rfl, rfl⟩
set_option maxHeartbeats 400000 in
theorem of_no (n : Int) (w : World) (h : ¬ IsN n) : Calls Tryd.prog 24 #[.int .i64 n] w fun e w' => e = .returned (.tuple #[.int .u32 0, er 12]) ∧ w' = w := by
  go_enter Tryd.func24, Tryd.ntmps24
  go_wp2_with fail
  (with_reducible refine (kind_no n w h).mono ?_)
  rintro e w1 ⟨rfl, rfl⟩
  go_wp2_with fail
  go_ret2
  exact ⟨rfl, rfl⟩
theorem rof_any (n : Int) (w : World) (h : IsN n) : Calls Tryd.prog 42 #[.int .i64 n] w fun e w' => e = .returned (.int .u32 (167772160 + n)) ∧ w' = w := by
  have hb := isN_bd h
  clear h
  go_enter Tryd.func42, Tryd.ntmps42
  go_wp2_with fail
  go_ret
  exact ⟨rfl, rfl⟩
set_option maxHeartbeats 800000 in
theorem who_yes (n : Int) (w : World) (h : IsN n) : Calls Tryd.prog 25 #[.int .u32 (167772160 + n)] w fun e w' => e = .returned (.tuple #[.int .i64 n, .bool true]) ∧ w' = w := by
  have hb := isN_bd h
  have d1 : decide (167772160 + n < 167772160) = false := decide_eq_false (by omega)
  have d2 : decide (167772416 ≤ 167772160 + n) = false := decide_eq_false (by omega)
  have e1 : 167772160 + n - 167772160 = n := by omega
  go_enter Tryd.func25, Tryd.ntmps25
  go_wp2_with fail
  (with_reducible refine (kind_yes n w h).mono ?_)
  rintro e w1 ⟨rfl, rfl⟩
  generalize kindOf n = kk at *
  go_wp2_with fail
  go_ret2
  exact ⟨rfl, rfl⟩
set_option maxHeartbeats 800000 in
theorem who_no (a : Nat) (w : World) (ha : a < 4294967296) (h : ¬ IsN ((a : Int) - 167772160)) : Calls Tryd.prog 25 #[.int .u32 (a : Int)] w fun e w' => e = .returned (.tuple #[.int .i64 0, .bool false]) ∧ w' = w := by
  by_cases h1 : a < 167772160
  · have d1 : decide ((a : Int) < 167772160) = true := decide_eq_true (by omega)
    clear h h1
    go_enter Tryd.func25, Tryd.ntmps25
    go_wp2_with fail
    go_ret2
    exact ⟨rfl, rfl⟩
  · have d1 : decide ((a : Int) < 167772160) = false := decide_eq_false (by omega)
    by_cases h2 : 167772416 ≤ a
    · have d2 : decide (167772416 ≤ (a : Int)) = true := decide_eq_true (by omega)
      clear h h1 h2
      go_enter Tryd.func25, Tryd.ntmps25
      go_wp2_with fail
      go_ret2
      exact ⟨rfl, rfl⟩
    · have d2 : decide (167772416 ≤ (a : Int)) = false := decide_eq_false (by omega)
      go_enter Tryd.func25, Tryd.ntmps25
      go_wp2_with fail
      (with_reducible refine (kind_no ((a : Int) - 167772160) w h).mono ?_)
      rintro e w1 ⟨rfl, rfl⟩
      go_wp2_with fail
      go_ret2
      exact ⟨rfl, rfl⟩
end Go.Proofs.YtfhdkcdhfdapbaaDoor
