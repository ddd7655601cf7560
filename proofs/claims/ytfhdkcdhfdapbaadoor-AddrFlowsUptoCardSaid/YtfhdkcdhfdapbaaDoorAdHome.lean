/- The walks of Dip, Home, IsVip, of the document's, and of alive. -/
import Derived.Test.YtfhdkcdhfdapbaaDoorAdParse
namespace Go.Proofs.YtfhdkcdhfdapbaaDoor
set_option linter.unusedVariables false
set_option linter.unusedSimpArgs false
open Go.RowKit Go.Sort

def dipA (h v : Nat) : Nat := 167837696 + 256 * h + v
set_option maxHeartbeats 800000 in
theorem dip_yes (h v : Nat) (w : World) (hh : h < 8) (hv : v < 16) : Calls Tryd.prog 15 #[.int .i64 (h : Int), .int .i64 (v : Int)] w fun e w' => e = .returned (.tuple #[.int .u32 (dipA h v : Int), .nilIface]) ∧ w' = w := by
  have e1 : bits .or .u32 167837696 ((h : Int) * 256) = ((167837696 + 256 * h : Nat) : Int) := by
    have := u32_or_nat 167837696 (h * 256) (by omega) (by omega)
    rw [show ((h : Int) * 256) = ((h * 256 : Nat) : Int) by omega, show (167837696 : Int) = ((167837696 : Nat) : Int) by rfl, this, nat_join 16 _ _ (by decide) (by omega)]
    congr 1
    omega
  have e2 : bits .or .u32 ((167837696 + 256 * h : Nat) : Int) (v : Int) = (dipA h v : Int) := by
    rw [u32_or_nat _ _ (by omega) (by omega), nat_join 8 _ _ (by omega) (by omega)]
    rfl
  have e3 : bits .or .u32 (167837696 + 256 * (h : Int)) (v : Int) = (dipA h v : Int) := by
    rw [show (167837696 + 256 * (h : Int)) = ((167837696 + 256 * h : Nat) : Int) by omega]; exact e2
  have d1 : decide ((8 : Int) ≤ (h : Int)) = false := decide_eq_false (by omega)
  have d2 : decide ((16 : Int) ≤ (v : Int)) = false := decide_eq_false (by omega)
  go_enter Tryd.func15, Tryd.ntmps15
  go_wp2_with fail
  go_ret2
  exact ⟨by first | rfl | (rw [e3]), rfl⟩
set_option maxHeartbeats 800000 in
theorem dip_no (h v : Int) (w : World) (hn : ¬ ((0 ≤ h ∧ h < 8) ∧ (0 ≤ v ∧ v < 16))) : Calls Tryd.prog 15 #[.int .i64 h, .int .i64 v] w fun e w' => e = .returned (.tuple #[.int .u32 0, er 12]) ∧ w' = w := by
  by_cases h1 : h < 0
  · have d1 : decide (h < 0) = true := decide_eq_true h1
    clear hn h1
    go_enter Tryd.func15, Tryd.ntmps15
    go_wp2_with fail
    go_ret2
    exact ⟨rfl, rfl⟩
  · have d1 : decide (h < 0) = false := decide_eq_false h1
    by_cases h2 : 8 ≤ h
    · have d2 : decide (8 ≤ h) = true := decide_eq_true h2
      clear hn h1 h2
      go_enter Tryd.func15, Tryd.ntmps15
      go_wp2_with fail
      go_ret2
      exact ⟨rfl, rfl⟩
    · have d2 : decide (8 ≤ h) = false := decide_eq_false h2
      by_cases h3 : v < 0
      · have d3 : decide (v < 0) = true := decide_eq_true h3
        clear hn h1 h2 h3
        go_enter Tryd.func15, Tryd.ntmps15
        go_wp2_with fail
        go_ret2
        exact ⟨rfl, rfl⟩
      · have d3 : decide (v < 0) = false := decide_eq_false h3
        have d4 : decide (16 ≤ v) = true := decide_eq_true (by omega)
        clear hn h1 h2 h3
        go_enter Tryd.func15, Tryd.ntmps15
        go_wp2_with fail
        go_ret2
        exact ⟨rfl, rfl⟩
/-- Is it a machine's address? -/
def isM (a : Nat) : Prop := a / 65536 = 2561 ∧ a / 256 % 256 < 8 ∧ a % 256 < 16
instance (a : Nat) : Decidable (isM a) := by unfold isM; infer_instance
theorem and255 (x : Nat) (h : x < 4294967296) : bits .and .u32 (x : Int) 255 = ((x % 256 : Nat) : Int) := by
  have := u32_and_nat x 255 h (by omega)
  rw [show (255 : Int) = ((255 : Nat) : Int) by rfl, this]
  congr 1
  exact Nat.and_two_pow_sub_one_eq_mod x 8
theorem isM_iff (a : Nat) (h : a < 4294967296) : isM a ↔ (a / 256 % 256 < 8 ∧ a % 256 < 16) ∧ dipA (a / 256 % 256) (a % 256) = a := by
  unfold isM dipA
  omega
def homeR (a : Nat) : Value := if isM a then .tuple #[.int .i64 ((48 + a / 256 % 256 : Nat) : Int), .int .i64 ((a % 256 : Nat) : Int), .bool true] else .tuple #[.int .i64 0, .int .i64 0, .bool false]
set_option maxHeartbeats 1600000 in
theorem home_any (a : Nat) (w : World) (h : a < 4294967296) : Calls Tryd.prog 17 #[.int .u32 (a : Int)] w fun e w' => e = .returned (homeR a) ∧ w' = w := by
  have e1 := and255 (a / 256) (by omega)
  have e2 := and255 a h
  have e1' : bits .and .u32 ((a : Int) / 256) 255 = ((a / 256 % 256 : Nat) : Int) := by rw [show ((a : Int) / 256) = ((a / 256 : Nat) : Int) by omega]; exact e1
  have hi := isM_iff a h
  have hH : Hid (isM a → homeR a = .tuple #[.int .i64 ((48 + a / 256 % 256 : Nat) : Int), .int .i64 ((a % 256 : Nat) : Int), .bool true]) := fun h => by unfold homeR; rw [if_pos h]
  have hH2 : Hid (¬ isM a → homeR a = .tuple #[.int .i64 0, .int .i64 0, .bool false]) := fun h => by unfold homeR; rw [if_neg h]
  have hx : a / 256 % 256 < 256 := Nat.mod_lt _ (by omega)
  have hy : a % 256 < 256 := Nat.mod_lt _ (by omega)
  obtain ⟨x, hxe⟩ : ∃ x, a / 256 % 256 = x := ⟨_, rfl⟩
  obtain ⟨y, hye⟩ : ∃ y, a % 256 = y := ⟨_, rfl⟩
  rw [hxe] at e1 e1' hH hx
  rw [hye] at e2 hH hy
  rw [hxe, hye] at hi
  have HI := Lib.hid hi
  clear hi hxe hye
  go_enter Tryd.func17, Tryd.ntmps17
  go_wp2_with fail
  by_cases hd : x < 8 ∧ y < 16
  · (with_reducible refine (dip_yes x y w hd.1 hd.2).mono ?_)
    rintro e w1 ⟨rfl, rfl⟩
    have hdl : dipA x y < 4294967296 := by unfold dipA; omega
    by_cases he : dipA x y = a
    · have hc : ((dipA x y : Int) == (a : Int)) = true := by rw [he]; simp
      have hm : isM a := HI.out.2 ⟨hd, he⟩
      have HR := Lib.hid (hH.out hm)
      generalize dipA x y = d at *
      subst he
      go_wp2_with fail
      go_ret3
      exact ⟨by rw [HR.out]; simp [go_sem], rfl⟩
    · have hc : ((dipA x y : Int) == (a : Int)) = false := beq_eq_false_iff_ne.2 (by omega)
      have HR := Lib.hid (hH2.out (fun hm => he (HI.out.1 hm).2))
      generalize dipA x y = d at *
      clear he
      go_wp2_with fail
      go_ret3
      exact ⟨by rw [HR.out]; rfl, rfl⟩
  · (with_reducible refine (dip_no x y w (by omega)).mono ?_)
    rintro e w1 ⟨rfl, rfl⟩
    have HR := Lib.hid (hH2.out (fun hm => hd (HI.out.1 hm).1))
    clear hd
    go_wp2_with fail
    go_ret3
    exact ⟨by rw [HR.out]; rfl, rfl⟩
/-- Is it a vip? -/
def isV (a : Nat) : Bool := decide (1 ≤ a / 16777216 ∧ a / 16777216 ≤ 223 ∧ a / 16777216 ≠ 10 ∧ a / 16777216 ≠ 127)
theorem isv_0 (a : Nat) (w : World) (h : a < 4294967296) (hc : a / 16777216 = 0) : Calls Tryd.prog 19 #[.int .u32 (a : Int)] w fun e w' => e = .returned (.bool false) ∧ w' = w := by
  have f1 : decide ((1 : Int) ≤ ((a : Int) / 16777216)) = false := decide_eq_false (by omega)
  have f2 : decide (((a : Int) / 16777216) ≤ 223) = true := decide_eq_true (by omega)
  have f3 : (((a : Int) / 16777216) != 10) = true := by rw [bne_iff_ne]; omega
  have f4 : (((a : Int) / 16777216) != 127) = true := by rw [bne_iff_ne]; omega
  clear hc
  go_enter Tryd.func19, Tryd.ntmps19
  go_wp2_with fail
  go_ret
  exact ⟨rfl, rfl⟩
theorem isv_1 (a : Nat) (w : World) (h : a < 4294967296) (hc : 1 ≤ a / 16777216 ∧ a / 16777216 ≤ 223 ∧ a / 16777216 ≠ 10 ∧ a / 16777216 ≠ 127) : Calls Tryd.prog 19 #[.int .u32 (a : Int)] w fun e w' => e = .returned (.bool true) ∧ w' = w := by
  have f1 : decide ((1 : Int) ≤ ((a : Int) / 16777216)) = true := decide_eq_true (by omega)
  have f2 : decide (((a : Int) / 16777216) ≤ 223) = true := decide_eq_true (by omega)
  have f3 : (((a : Int) / 16777216) != 10) = true := by rw [bne_iff_ne]; omega
  have f4 : (((a : Int) / 16777216) != 127) = true := by rw [bne_iff_ne]; omega
  clear hc
  go_enter Tryd.func19, Tryd.ntmps19
  go_wp2_with fail
  go_ret
  exact ⟨rfl, rfl⟩
theorem isv_2 (a : Nat) (w : World) (h : a < 4294967296) (hc : a / 16777216 = 10) : Calls Tryd.prog 19 #[.int .u32 (a : Int)] w fun e w' => e = .returned (.bool false) ∧ w' = w := by
  have f1 : decide ((1 : Int) ≤ ((a : Int) / 16777216)) = true := decide_eq_true (by omega)
  have f2 : decide (((a : Int) / 16777216) ≤ 223) = true := decide_eq_true (by omega)
  have f3 : (((a : Int) / 16777216) != 10) = false := by rw [bne_eq_false_iff_eq]; omega
  have f4 : (((a : Int) / 16777216) != 127) = true := by rw [bne_iff_ne]; omega
  clear hc
  go_enter Tryd.func19, Tryd.ntmps19
  go_wp2_with fail
  go_ret
  exact ⟨rfl, rfl⟩
theorem isv_3 (a : Nat) (w : World) (h : a < 4294967296) (hc : a / 16777216 = 127) : Calls Tryd.prog 19 #[.int .u32 (a : Int)] w fun e w' => e = .returned (.bool false) ∧ w' = w := by
  have f1 : decide ((1 : Int) ≤ ((a : Int) / 16777216)) = true := decide_eq_true (by omega)
  have f2 : decide (((a : Int) / 16777216) ≤ 223) = true := decide_eq_true (by omega)
  have f3 : (((a : Int) / 16777216) != 10) = true := by rw [bne_iff_ne]; omega
  have f4 : (((a : Int) / 16777216) != 127) = false := by rw [bne_eq_false_iff_eq]; omega
  clear hc
  go_enter Tryd.func19, Tryd.ntmps19
  go_wp2_with fail
  go_ret
  exact ⟨rfl, rfl⟩
theorem isv_4 (a : Nat) (w : World) (h : a < 4294967296) (hc : 224 ≤ a / 16777216) : Calls Tryd.prog 19 #[.int .u32 (a : Int)] w fun e w' => e = .returned (.bool false) ∧ w' = w := by
  have f1 : decide ((1 : Int) ≤ ((a : Int) / 16777216)) = true := decide_eq_true (by omega)
  have f2 : decide (((a : Int) / 16777216) ≤ 223) = false := decide_eq_false (by omega)
  have f3 : (((a : Int) / 16777216) != 10) = true := by rw [bne_iff_ne]; omega
  have f4 : (((a : Int) / 16777216) != 127) = true := by rw [bne_iff_ne]; omega
  clear hc
  go_enter Tryd.func19, Tryd.ntmps19
  go_wp2_with fail
  go_ret
  exact ⟨rfl, rfl⟩
theorem rbyte0_any (a : Nat) (w : World) (h : a < 4294967296) : Calls Tryd.prog 40 #[.int .u32 (a : Int), .int .i64 0] w fun e w' => e = .returned (.int .i64 ((a / 16777216 : Nat) : Int)) ∧ w' = w := by
  go_enter Tryd.func40, Tryd.ntmps40
  go_wp2
  go_ret
  exact ⟨by show Ending.returned (Value.int .i64 ((a : Int) / 16777216 % 256)) = _; congr 2; omega, rfl⟩
theorem isvip_any (a : Nat) (w : World) (h : a < 4294967296) : Calls Tryd.prog 19 #[.int .u32 (a : Int)] w fun e w' => e = .returned (.bool (isV a)) ∧ w' = w := by
  have hr : a / 16777216 = 0 ∨ (1 ≤ a / 16777216 ∧ a / 16777216 ≤ 223 ∧ a / 16777216 ≠ 10 ∧ a / 16777216 ≠ 127) ∨ a / 16777216 = 10 ∨ a / 16777216 = 127 ∨ 224 ≤ a / 16777216 := by omega
  rcases hr with hc | hc | hc | hc | hc
  · have hb : isV a = false := by unfold isV; exact decide_eq_false (by omega)
    rw [hb]; exact isv_0 a w h hc
  · have hb : isV a = true := by unfold isV; exact decide_eq_true (by omega)
    rw [hb]; exact isv_1 a w h hc
  · have hb : isV a = false := by unfold isV; exact decide_eq_false (by omega)
    rw [hb]; exact isv_2 a w h hc
  · have hb : isV a = false := by unfold isV; exact decide_eq_false (by omega)
    rw [hb]; exact isv_3 a w h hc
  · have hb : isV a = false := by unfold isV; exact decide_eq_false (by omega)
    rw [hb]; exact isv_4 a w h hc
theorem risv_0 (a : Nat) (w : World) (h : a < 4294967296) (hc : a / 16777216 = 0) : Calls Tryd.prog 20 #[.int .u32 (a : Int)] w fun e w' => e = .returned (.bool false) ∧ w' = w := by
  have f1 : decide ((1 : Int) ≤ (((a / 16777216 : Nat) : Int))) = false := decide_eq_false (by omega)
  have f2 : decide ((((a / 16777216 : Nat) : Int)) ≤ 223) = true := decide_eq_true (by omega)
  have f3 : ((((a / 16777216 : Nat) : Int)) != 10) = true := by rw [bne_iff_ne]; omega
  have f4 : ((((a / 16777216 : Nat) : Int)) != 127) = true := by rw [bne_iff_ne]; omega
  clear hc
  go_enter Tryd.func20, Tryd.ntmps20
  go_wp2_with fail
  (with_reducible refine (rbyte0_any a w h).mono ?_)
  rintro e w1 ⟨rfl, rfl⟩
  obtain ⟨x, hx⟩ : ∃ x, a / 16777216 = x := ⟨_, rfl⟩
  rw [hx] at f1 f2 f3 f4 ⊢
  clear hx
  go_wp2_with fail
  go_ret
  exact ⟨rfl, rfl⟩
theorem risv_1 (a : Nat) (w : World) (h : a < 4294967296) (hc : 1 ≤ a / 16777216 ∧ a / 16777216 ≤ 223 ∧ a / 16777216 ≠ 10 ∧ a / 16777216 ≠ 127) : Calls Tryd.prog 20 #[.int .u32 (a : Int)] w fun e w' => e = .returned (.bool true) ∧ w' = w := by
  have f1 : decide ((1 : Int) ≤ (((a / 16777216 : Nat) : Int))) = true := decide_eq_true (by omega)
  have f2 : decide ((((a / 16777216 : Nat) : Int)) ≤ 223) = true := decide_eq_true (by omega)
  have f3 : ((((a / 16777216 : Nat) : Int)) != 10) = true := by rw [bne_iff_ne]; omega
  have f4 : ((((a / 16777216 : Nat) : Int)) != 127) = true := by rw [bne_iff_ne]; omega
  clear hc
  go_enter Tryd.func20, Tryd.ntmps20
  go_wp2_with fail
  (with_reducible refine (rbyte0_any a w h).mono ?_)
  rintro e w1 ⟨rfl, rfl⟩
  obtain ⟨x, hx⟩ : ∃ x, a / 16777216 = x := ⟨_, rfl⟩
  rw [hx] at f1 f2 f3 f4 ⊢
  clear hx
  go_wp2_with fail
  go_ret
  exact ⟨rfl, rfl⟩
theorem risv_2 (a : Nat) (w : World) (h : a < 4294967296) (hc : a / 16777216 = 10) : Calls Tryd.prog 20 #[.int .u32 (a : Int)] w fun e w' => e = .returned (.bool false) ∧ w' = w := by
  have f1 : decide ((1 : Int) ≤ (((a / 16777216 : Nat) : Int))) = true := decide_eq_true (by omega)
  have f2 : decide ((((a / 16777216 : Nat) : Int)) ≤ 223) = true := decide_eq_true (by omega)
  have f3 : ((((a / 16777216 : Nat) : Int)) != 10) = false := by rw [bne_eq_false_iff_eq]; omega
  have f4 : ((((a / 16777216 : Nat) : Int)) != 127) = true := by rw [bne_iff_ne]; omega
  clear hc
  go_enter Tryd.func20, Tryd.ntmps20
  go_wp2_with fail
  (with_reducible refine (rbyte0_any a w h).mono ?_)
  rintro e w1 ⟨rfl, rfl⟩
  obtain ⟨x, hx⟩ : ∃ x, a / 16777216 = x := ⟨_, rfl⟩
  rw [hx] at f1 f2 f3 f4 ⊢
  clear hx
  go_wp2_with fail
  go_ret
  exact ⟨rfl, rfl⟩
theorem risv_3 (a : Nat) (w : World) (h : a < 4294967296) (hc : a / 16777216 = 127) : Calls Tryd.prog 20 #[.int .u32 (a : Int)] w fun e w' => e = .returned (.bool false) ∧ w' = w := by
  have f1 : decide ((1 : Int) ≤ (((a / 16777216 : Nat) : Int))) = true := decide_eq_true (by omega)
  have f2 : decide ((((a / 16777216 : Nat) : Int)) ≤ 223) = true := decide_eq_true (by omega)
  have f3 : ((((a / 16777216 : Nat) : Int)) != 10) = true := by rw [bne_iff_ne]; omega
  have f4 : ((((a / 16777216 : Nat) : Int)) != 127) = false := by rw [bne_eq_false_iff_eq]; omega
  clear hc
  go_enter Tryd.func20, Tryd.ntmps20
  go_wp2_with fail
  (with_reducible refine (rbyte0_any a w h).mono ?_)
  rintro e w1 ⟨rfl, rfl⟩
  obtain ⟨x, hx⟩ : ∃ x, a / 16777216 = x := ⟨_, rfl⟩
  rw [hx] at f1 f2 f3 f4 ⊢
  clear hx
  go_wp2_with fail
  go_ret
  exact ⟨rfl, rfl⟩
theorem risv_4 (a : Nat) (w : World) (h : a < 4294967296) (hc : 224 ≤ a / 16777216) : Calls Tryd.prog 20 #[.int .u32 (a : Int)] w fun e w' => e = .returned (.bool false) ∧ w' = w := by
  have f1 : decide ((1 : Int) ≤ (((a / 16777216 : Nat) : Int))) = true := decide_eq_true (by omega)
  have f2 : decide ((((a / 16777216 : Nat) : Int)) ≤ 223) = false := decide_eq_false (by omega)
  have f3 : ((((a / 16777216 : Nat) : Int)) != 10) = true := by rw [bne_iff_ne]; omega
  have f4 : ((((a / 16777216 : Nat) : Int)) != 127) = true := by rw [bne_iff_ne]; omega
  clear hc
  go_enter Tryd.func20, Tryd.ntmps20
  go_wp2_with fail
  (with_reducible refine (rbyte0_any a w h).mono ?_)
  rintro e w1 ⟨rfl, rfl⟩
  obtain ⟨x, hx⟩ : ∃ x, a / 16777216 = x := ⟨_, rfl⟩
  rw [hx] at f1 f2 f3 f4 ⊢
  clear hx
  go_wp2_with fail
  go_ret
  exact ⟨rfl, rfl⟩
theorem risvip_any (a : Nat) (w : World) (h : a < 4294967296) : Calls Tryd.prog 20 #[.int .u32 (a : Int)] w fun e w' => e = .returned (.bool (isV a)) ∧ w' = w := by
  have hr : a / 16777216 = 0 ∨ (1 ≤ a / 16777216 ∧ a / 16777216 ≤ 223 ∧ a / 16777216 ≠ 10 ∧ a / 16777216 ≠ 127) ∨ a / 16777216 = 10 ∨ a / 16777216 = 127 ∨ 224 ≤ a / 16777216 := by omega
  rcases hr with hc | hc | hc | hc | hc
  · have hb : isV a = false := by unfold isV; exact decide_eq_false (by omega)
    rw [hb]; exact risv_0 a w h hc
  · have hb : isV a = true := by unfold isV; exact decide_eq_true (by omega)
    rw [hb]; exact risv_1 a w h hc
  · have hb : isV a = false := by unfold isV; exact decide_eq_false (by omega)
    rw [hb]; exact risv_2 a w h hc
  · have hb : isV a = false := by unfold isV; exact decide_eq_false (by omega)
    rw [hb]; exact risv_3 a w h hc
  · have hb : isV a = false := by unfold isV; exact decide_eq_false (by omega)
    rw [hb]; exact risv_4 a w h hc
set_option maxHeartbeats 800000 in
theorem rdip_any (h v : Nat) (w : World) (hh : h < 256) (hv : v < 256) : Calls Tryd.prog 16 #[.int .i64 (h : Int), .int .i64 (v : Int)] w fun e w' => e = .returned (.int .u32 (dipA h v : Int)) ∧ w' = w := by
  have e1 : (167837696 + 256 * (h : Int) + (v : Int)) = (dipA h v : Int) := by unfold dipA; omega
  go_enter Tryd.func16, Tryd.ntmps16
  go_wp2_with fail
  go_ret
  exact ⟨by show Ending.returned (Value.int .u32 (167837696 + 256 * (h : Int) + (v : Int))) = _; rw [e1], rfl⟩
def rhomeR (a : Nat) : Value := if isM a then .tuple #[.int .i64 ((a / 256 % 256 : Nat) : Int), .int .i64 ((a % 256 : Nat) : Int), .bool true] else .tuple #[.int .i64 0, .int .i64 0, .bool false]
theorem dip_isM (h v a : Nat) (hh : h < 8) (hv : v < 16) (ha : a < 4294967296) : dipA h v = a ↔ isM a ∧ a / 256 % 256 = h ∧ a % 256 = v := by
  unfold isM dipA
  omega
set_option maxHeartbeats 3200000 in
theorem rhome_any (a : Nat) (w : World) (ha : a < 4294967296) : Calls Tryd.prog 18 #[.int .u32 (a : Int)] w fun e w' => e = .returned (rhomeR a) ∧ w' = w := by
  go_enter Tryd.func18, Tryd.ntmps18
  go_wp2_with fail
  go_loopw [5] (fun i wr => ∃ h : Nat, h ≤ 8 ∧ i = .int .i64 (h : Int) ∧ Hid (isM a → h ≤ a / 256 % 256) ∧ w = wr) (fun i _ => 8 - (intOf i).toNat)
  case atStart => exact ⟨0, by omega, rfl, fun _ => Nat.zero_le _, by first | rfl | trivial⟩
  case round =>
    obtain ⟨h, hh, rfl, HM, rfl⟩ := hrel
    by_cases h8 : h < 8
    · have hda : decide ((h : Int) < 8) = true := decide_eq_true (by omega)
      go_wp2_with fail
      go_loopw [6] (fun i wr2 => ∃ v : Nat, v ≤ 16 ∧ i = .int .i64 (v : Int) ∧ Hid (isM a → a / 256 % 256 = h → v ≤ a % 256) ∧ w = wr2) (fun i _ => 16 - (intOf i).toNat)
      case atStart => exact ⟨0, by omega, rfl, fun _ _ => Nat.zero_le _, by first | rfl | trivial⟩
      case round =>
        obtain ⟨v, hv, rfl, HV, rfl⟩ := hrel
        by_cases h16 : v < 16
        · go_wp2_with fail
          (with_reducible refine (rdip_any h v w (by omega) (by omega)).mono ?_)
          rintro e w1 ⟨rfl, rfl⟩
          have hdi := dip_isM h v a h8 h16 ha
          by_cases he : dipA h v = a
          · have hc : ((dipA h v : Int) == (a : Int)) = true := by rw [he]; simp
            have HR : Hid (rhomeR a = .tuple #[.int .i64 (h : Int), .int .i64 (v : Int), .bool true]) := by
              show _ = _
              obtain ⟨hm, h1, h2⟩ := hdi.1 he
              unfold rhomeR
              rw [if_pos hm, h1, h2]
            clear he hdi
            generalize dipA h v = d at *
            go_wp2_with fail
            go_ret3
            exact ⟨by rw [HR.out]; rfl, rfl⟩
          · have hc : ((dipA h v : Int) == (a : Int)) = false := beq_eq_false_iff_ne.2 (by omega)
            have HV2 : Hid (isM a → a / 256 % 256 = h → v + 1 ≤ a % 256) := fun hm h1 => by
              have h2 := HV.out hm h1
              have h3 : a % 256 ≠ v := fun h4 => he (hdi.2 ⟨hm, h1, h4⟩)
              omega
            clear he hdi
            generalize dipA h v = d at *
            go_wp2_with fail
            go_roundw
            case rel => exact ⟨v + 1, by omega, by go_num, HV2, by first | rfl | trivial⟩
            case measure => simp [intOf]; omega
        · obtain rfl : v = 16 := by omega
          have HM2 : Hid (isM a → h + 1 ≤ a / 256 % 256) := fun hm => by
            have h1 := HM.out hm
            have h2 : a / 256 % 256 ≠ h := fun h3 => by
              have := HV.out hm h3
              have := hm.2.2
              omega
            omega
          go_wp2_with fail
          go_roundw
          case rel => exact ⟨h + 1, by omega, by go_num, HM2, by first | rfl | trivial⟩
          case measure => simp [intOf]; omega
    · obtain rfl : h = 8 := by omega
      have HR : Hid (rhomeR a = .tuple #[.int .i64 0, .int .i64 0, .bool false]) := by
        show _ = _
        unfold rhomeR
        rw [if_neg (fun hm => by have := HM.out hm; have := hm.2.1; omega)]
      go_wp2_with fail
      go_ret3
      exact ⟨by rw [HR.out]; rfl, rfl⟩
theorem alive_parse : parseA ⟨#[49, 48, 46, 49, 46, 49, 46, 50]⟩ = some 167837954 := by kernel_rfl
theorem alive_text : textL 167772192 = [49, 48, 46, 48, 46, 48, 46, 51, 50] := by kernel_rfl
set_option maxHeartbeats 800000 in
theorem alive_any (w : World) (hG : Gd w) : Calls Tryd.prog 9 #[] w fun e w' => e = .returned (.bool true) ∧ Below w.heap.size w w' := by
  have hp := parseR_some alive_parse
  have hh : homeR 167837954 = .tuple #[.int .i64 49, .int .i64 2, .bool true] := by unfold homeR; rw [if_pos (by decide)]; rfl
  have ht := alive_text
  have hv : isV 16909060 = true := by decide
  go_enter Tryd.func9, Tryd.ntmps9
  go_wp2_with fail
  (with_reducible refine (parse_any _ w (by decide) hG).mono ?_)
  rintro e w1 ⟨rfl, hb1⟩
  rw [hp]
  go_wp2_with fail
  have c1 : Calls Tryd.prog 17 #[.int .u32 167837954] w1 fun e w' => e = .returned (homeR 167837954) ∧ w' = w1 := home_any 167837954 w1 (by omega)
  (with_reducible refine c1.mono ?_)
  rintro e w2 ⟨rfl, rfl⟩
  rw [hh]
  go_wp2_with fail
  have c2 : Calls Tryd.prog 12 #[.int .u32 167772192] w2 fun e w' => e = .returned (.string (strOf (textL 167772192))) ∧ Below w2.heap.size w2 w' := text_any 167772192 w2 (by omega) (hG.below hb1)
  (with_reducible refine c2.mono ?_)
  rintro e w3 ⟨rfl, hb3⟩
  rw [ht]
  go_wp2_with fail
  have c3 : Calls Tryd.prog 19 #[.int .u32 16909060] w3 fun e w' => e = .returned (.bool (isV 16909060)) ∧ w' = w3 := isvip_any 16909060 w3 (by omega)
  (with_reducible refine c3.mono ?_)
  rintro e w4 ⟨rfl, rfl⟩
  rw [hv]
  go_wp2_with fail
  go_ret
  exact ⟨rfl, below_call hb1 hb3⟩
theorem er_neq (a b : Int) (w : World) : (binOp .neq 26 (.iface 36 (.int .i64 a)) (.iface 36 (.int .i64 b))).run Tryd.prog w = .ok (.bool (!(a == b))) w := by
  have hc : (Tryd.prog.info? 36).map (·.comparable) = some true := by kernel_rfl
  cases hi : Tryd.prog.info? 36 with
  | none => simp [hi] at hc
  | some i =>
    have hcc : i.comparable = true := by simpa [hi] using hc
    have h : ∀ d : Nat, (Op.equalIn (d + 2) 26 (.iface 36 (.int .i64 a)) (.iface 36 (.int .i64 b))).run Tryd.prog w = .ok (a == b) w := fun d => by
      simp [Op.equalIn, run_underlying Tryd.underlying26, run_underlying Tryd.underlying36, typeInfo, hi, hcc]
    simp only [binOp]
    simp [Op.equal, Op.maxDepth, h 9998]
theorem u32_nat {z : Int} (h : (Lit.int .u32 z).wf = true) : ∃ n : Nat, z = (n : Int) ∧ n < 4294967296 := by
  have h2 : 0 ≤ z ∧ z ≤ 4294967295 := by simpa [Lit.wf, IntKind.min, IntKind.max, IntKind.signed, IntKind.bits] using h
  exact ⟨z.toNat, by omega, by omega⟩
end Go.Proofs.YtfhdkcdhfdapbaaDoor
