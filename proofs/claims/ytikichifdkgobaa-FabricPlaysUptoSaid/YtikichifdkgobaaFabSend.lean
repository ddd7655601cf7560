/- The walks of the fabric's New, Len, Send, place. -/
import Derived.Test.YtikichifdkgobaaFabPut
namespace Go.Proofs.Ytikichifdkgobaa
set_option linter.unusedVariables false
set_option linter.unusedSimpArgs false
open Go.RowKit

set_option maxHeartbeats 400000 in
theorem fnew_any (w : World) : Calls Try.prog 11 #[] w fun e w' => e = .returned (.pointer (some ⟨w.heap.size, 0, none⟩)) ∧ Fb w' w.heap.size w.heap.size 0 (.slice none 0 0) [] [] ∧ Below w.heap.size w w' := by
  go_enter Try.func11, Try.ntmps11
  go_wp2
  go_ret
  exact ⟨rfl, ⟨Blk.new w _ _, World.ownsRow_nil _ _ _ _, Ows.nil _ _⟩, (Below.refl _ w).alloc (Nat.le_refl _) _⟩
set_option maxHeartbeats 400000 in
theorem flen_any (base gf : Nat) (last : Int) (fl : Value) (l : List (Lh × Value)) (xs : List (List UInt8)) (w : World) (h : Fb w base gf last fl l xs) : Calls Try.prog 16 #[.pointer (some ⟨gf, 0, none⟩)] w fun e w' => e = .returned (.int .i64 (l.length : Int)) ∧ w' = w := by
  have c0 := h.blk.cell 0
  simp only [List.getElem?_cons_zero] at c0
  obtain ⟨A, c, rfl, -, -, -⟩ := own_formS h.own
  go_enter Try.func16, Try.ntmps16
  go_wp2
  go_ret
  exact ⟨rfl, rfl⟩
theorem flen_i (base gf : Nat) (last : Int) (fl : Value) (l : List (Lh × Value)) (xs : List (List UInt8)) (n : Int) (w : World) (h : Fb w base gf last fl l xs) (hn : (l.length : Int) = n) : Calls Try.prog 16 #[.pointer (some ⟨gf, 0, none⟩)] w fun e w' => e = .returned (.int .i64 n) ∧ w' = w := by
  subst hn
  exact flen_any base gf last fl l xs w h
set_option maxHeartbeats 400000 in
theorem flen_nil (w : World) : Calls Try.prog 16 #[.pointer none] w fun e w' => e = .returned (.int .i64 0) ∧ w' = w := by
  go_enter Try.func16, Try.ntmps16
  go_wp2
  go_ret
  exact ⟨rfl, rfl⟩
/-- Where the n-th of c stands. -/
def pl (n : Int) (c : Nat) : Nat := (n % (c : Int)).toNat
theorem pl_lt (n : Int) (c : Nat) (h : 0 < c) : pl n c < c := by
  unfold pl
  have h1 := Int.emod_nonneg n (b := (c : Int)) (by omega)
  have h2 := Int.emod_lt_of_pos n (b := (c : Int)) (by omega)
  omega
theorem tmod_bd (n : Int) (c : Nat) (h : 0 < c) : -(c : Int) < Int.tmod n (c : Int) ∧ Int.tmod n (c : Int) < (c : Int) := by
  refine ⟨?_, Int.tmod_lt_of_pos n (by omega)⟩
  have h1 : Int.tmod (-n) (c : Int) < (c : Int) := Int.tmod_lt_of_pos (-n) (by omega)
  rw [Int.neg_tmod] at h1
  omega
theorem pl_eq (n : Int) (c : Nat) (h : 0 < c) : Int.tmod (Int.tmod n (c : Int) + (c : Int)) (c : Int) = (pl n c : Int) := by
  have h1 := Int.emod_nonneg n (b := (c : Int)) (by omega)
  have hb : -(c : Int) < Int.tmod n (c : Int) ∧ Int.tmod n (c : Int) < (c : Int) := tmod_bd n c h
  rw [Int.tmod_eq_emod_of_nonneg (by omega)]
  unfold pl
  rw [Int.toNat_of_nonneg h1, Int.add_emod_right, Int.tmod_eq_emod]
  split
  · simp
  · simp
set_option maxHeartbeats 400000 in
theorem place_none (base gf : Nat) (last : Int) (fl : Value) (xs : List (List UInt8)) (n : Int) (w : World) (h : Fb w base gf last fl [] xs) : Calls Try.prog 35 #[.pointer (some ⟨gf, 0, none⟩), .int .i64 n] w fun e w' => e = .returned (.int .i64 (-1)) ∧ w' = w := by
  go_enter Try.func35, Try.ntmps35
  go_wp2_with fail
  (with_reducible refine (flen_i base gf last fl [] xs 0 w h rfl).mono ?_)
  rintro e w1 ⟨rfl, rfl⟩
  go_wp2_with fail
  go_ret
  exact ⟨rfl, rfl⟩
set_option maxHeartbeats 400000 in
theorem place_nil (n : Int) (w : World) : Calls Try.prog 35 #[.pointer none, .int .i64 n] w fun e w' => e = .returned (.int .i64 (-1)) ∧ w' = w := by
  go_enter Try.func35, Try.ntmps35
  go_wp2_with fail
  (with_reducible refine (flen_nil w).mono ?_)
  rintro e w1 ⟨rfl, rfl⟩
  go_wp2_with fail
  go_ret
  exact ⟨rfl, rfl⟩
set_option maxHeartbeats 400000 in
theorem place_some (base gf : Nat) (last : Int) (fl : Value) (l : List (Lh × Value)) (xs : List (List UInt8)) (n : Int) (w : World) (h : Fb w base gf last fl l xs) (h0 : 0 < l.length) (hl : l.length ≤ 4096) : Calls Try.prog 35 #[.pointer (some ⟨gf, 0, none⟩), .int .i64 n] w fun e w' => e = .returned (.int .i64 (pl n l.length : Int)) ∧ w' = w := by
  have hb := tmod_bd n l.length h0
  have w2 : IntKind.i64.wrap (Int.tmod n (l.length : Int) + (l.length : Int)) = Int.tmod n (l.length : Int) + (l.length : Int) := IntWalk.i64_in _ (by omega)
  have w1 : IntKind.i64.wrap (Int.tmod n (l.length : Int)) = Int.tmod n (l.length : Int) := by
    clear w2
    exact IntWalk.i64_in _ (by omega)
  have w4 : IntKind.i64.wrap (pl n l.length : Int) = (pl n l.length : Int) := by
    clear w2 w1
    have hp := pl_lt n l.length h0
    exact IntWalk.i64_in _ (by omega)
  have HE := pl_eq n l.length h0
  have hne : ((l.length : Int) == 0) = false := by
    clear w2 w1 HE w4
    exact beq_eq_false_iff_ne.2 (by omega)
  go_enter Try.func35, Try.ntmps35
  go_wp2_with fail
  (with_reducible refine (flen_any base gf last fl l xs w h).mono ?_)
  rintro e w3 ⟨rfl, rfl⟩
  clear hb
  go_wp2_with fail
  go_ret
  exact ⟨rfl, rfl⟩
/-- What Send answers where a node is none. -/
theorem send_no (F : Option Addr) (a b : Int) (ctl : Bool) (v : Value) (w : World) (h : ¬ (IsN a ∧ IsN b)) : Calls Try.prog 12 #[.pointer F, .int .i64 a, .int .i64 b, .bool ctl, v] w fun e w' => e = .returned (.tuple #[.int .i64 0, er 12]) ∧ w' = w := by
  have i0 : ∀ W : World, (Instr.index 70 (.agg #[.int .i64 a, .int .i64 b]) (.int .i64 0)).run Try.prog W = .ok (.int .i64 a) W := fun _ => by kernel_rfl
  have i1 : ∀ W : World, (Instr.index 70 (.agg #[.int .i64 a, .int .i64 b]) (.int .i64 1)).run Try.prog W = .ok (.int .i64 b) W := fun _ => by kernel_rfl
  by_cases ha : IsN a
  · have hb : ¬ IsN b := fun hb => h ⟨ha, hb⟩
    have HA := Lib.hid ha
    have HB := Lib.hid hb
    clear ha hb h
    go_enter Try.func12, Try.ntmps12
    go_wp2_with fail
    refine wp_loop_rounds 3 ?_
    rw [rounds_succ]
    go_wp2_with fail
    (with_reducible refine (kind_yes a w HA.out).mono ?_)
    rintro e w1 ⟨rfl, rfl⟩
    go_wp2_with fail
    rw [rounds_succ]
    go_wp2_with fail
    (with_reducible refine (kind_no b w1 HB.out).mono ?_)
    rintro e w2 ⟨rfl, rfl⟩
    go_wp2_with fail
    go_ret2
    exact ⟨rfl, rfl⟩
  · have HA := Lib.hid ha
    clear ha h
    go_enter Try.func12, Try.ntmps12
    go_wp2_with fail
    refine wp_loop_rounds 3 ?_
    rw [rounds_succ]
    go_wp2_with fail
    (with_reducible refine (kind_no a w HA.out).mono ?_)
    rintro e w1 ⟨rfl, rfl⟩
    go_wp2_with fail
    go_ret2
    exact ⟨rfl, rfl⟩
theorem send_nil  (a b : Int) (ctl : Bool) (A : Option Addr) (n c : Nat) (w : World) (ha : IsN a) (hb : IsN b)  : Calls Try.prog 12 #[.pointer none, .int .i64 a, .int .i64 b, .bool ctl, .slice A n c] w fun e w' => e = .returned (.tuple #[.int .i64 0, er 5]) ∧ Below w.heap.size w w' := by
  have i0 : ∀ W : World, (Instr.index 70 (.agg #[.int .i64 a, .int .i64 b]) (.int .i64 0)).run Try.prog W = .ok (.int .i64 a) W := fun _ => by kernel_rfl
  have i1 : ∀ W : World, (Instr.index 70 (.agg #[.int .i64 a, .int .i64 b]) (.int .i64 1)).run Try.prog W = .ok (.int .i64 b) W := fun _ => by kernel_rfl
  have HA := Lib.hid ha
  have HB := Lib.hid hb
  clear ha hb
  go_enter Try.func12, Try.ntmps12
  go_wp2_with fail
  refine wp_loop_rounds 3 ?_
  rw [rounds_succ]
  go_wp2_with fail
  (with_reducible refine (kind_yes a w HA.out).mono ?_)
  rintro e w1 ⟨rfl, rfl⟩
  go_wp2_with fail
  rw [rounds_succ]
  go_wp2_with fail
  (with_reducible refine (kind_yes b w1 HB.out).mono ?_)
  rintro e w2 ⟨rfl, rfl⟩
  go_wp2_with fail
  rw [rounds_succ]
  go_wp2_with fail
  (with_reducible refine (put_nil ⟨0, a, b, ctl⟩ (.slice A n c) w2).mono ?_)
  rintro e w3 ⟨rfl, hb3⟩
  go_wp2_with fail
  go_ret2
  exact ⟨rfl, hb3⟩
theorem send_full (base gf : Nat) (last : Int) (fl : Value) (l : List (Lh × Value)) (xs : List (List UInt8)) (a b : Int) (ctl : Bool) (A : Option Addr) (n c : Nat) (w : World) (ha : IsN a) (hb : IsN b) (hF : Fb w base gf last fl l xs) (hl : l.length = 4096) : Calls Try.prog 12 #[.pointer (some ⟨gf, 0, none⟩), .int .i64 a, .int .i64 b, .bool ctl, .slice A n c] w fun e w' => e = .returned (.tuple #[.int .i64 0, er 5]) ∧ Below w.heap.size w w' := by
  have i0 : ∀ W : World, (Instr.index 70 (.agg #[.int .i64 a, .int .i64 b]) (.int .i64 0)).run Try.prog W = .ok (.int .i64 a) W := fun _ => by kernel_rfl
  have i1 : ∀ W : World, (Instr.index 70 (.agg #[.int .i64 a, .int .i64 b]) (.int .i64 1)).run Try.prog W = .ok (.int .i64 b) W := fun _ => by kernel_rfl
  have HA := Lib.hid ha
  have HB := Lib.hid hb
  clear ha hb
  go_enter Try.func12, Try.ntmps12
  go_wp2_with fail
  refine wp_loop_rounds 3 ?_
  rw [rounds_succ]
  go_wp2_with fail
  (with_reducible refine (kind_yes a w HA.out).mono ?_)
  rintro e w1 ⟨rfl, rfl⟩
  go_wp2_with fail
  rw [rounds_succ]
  go_wp2_with fail
  (with_reducible refine (kind_yes b w1 HB.out).mono ?_)
  rintro e w2 ⟨rfl, rfl⟩
  go_wp2_with fail
  rw [rounds_succ]
  go_wp2_with fail
  (with_reducible refine (put_full base gf last fl l xs ⟨0, a, b, ctl⟩ (.slice A n c) w2 hF hl).mono ?_)
  rintro e w3 ⟨rfl, hb3⟩
  go_wp2_with fail
  go_ret2
  exact ⟨rfl, hb3⟩
theorem send_any (base gf : Nat) (last : Int) (fl : Value) (l : List (Lh × Value)) (xs : List (List UInt8)) (a b : Int) (ctl : Bool) (bs_ : List UInt8) (A : Option Addr) (n c : Nat) (w : World) (ha : IsN a) (hb : IsN b) (hF : Fb w base gf last fl l xs) (hbs : base ≤ w.heap.size) (hl : l.length < 4096) (hla : 0 ≤ last ∧ last ≤ 1000000) (hn : bs_.length = n) (hR : RB w A bs_) (hc : n ≤ c) (hnl : n ≤ 4000000) : Calls Try.prog 12 #[.pointer (some ⟨gf, 0, none⟩), .int .i64 a, .int .i64 b, .bool ctl, .slice A n c] w fun e w' => e = .returned (.tuple #[.int .i64 (last + 1), .nilIface]) ∧ PutQ w base gf last fl l xs ⟨0, a, b, ctl⟩ bs_ n w' := by
  have i0 : ∀ W : World, (Instr.index 70 (.agg #[.int .i64 a, .int .i64 b]) (.int .i64 0)).run Try.prog W = .ok (.int .i64 a) W := fun _ => by kernel_rfl
  have i1 : ∀ W : World, (Instr.index 70 (.agg #[.int .i64 a, .int .i64 b]) (.int .i64 1)).run Try.prog W = .ok (.int .i64 b) W := fun _ => by kernel_rfl
  have HA := Lib.hid ha
  have HB := Lib.hid hb
  have HN := Lib.hid hn
  clear ha hb hn
  go_enter Try.func12, Try.ntmps12
  go_wp2_with fail
  refine wp_loop_rounds 3 ?_
  rw [rounds_succ]
  go_wp2_with fail
  (with_reducible refine (kind_yes a w HA.out).mono ?_)
  rintro e w1 ⟨rfl, rfl⟩
  go_wp2_with fail
  rw [rounds_succ]
  go_wp2_with fail
  (with_reducible refine (kind_yes b w1 HB.out).mono ?_)
  rintro e w2 ⟨rfl, rfl⟩
  go_wp2_with fail
  rw [rounds_succ]
  go_wp2_with fail
  (with_reducible refine (put_any base gf last fl l xs ⟨0, a, b, ctl⟩ bs_ A n c w2 hF hbs hl hla HN.out hR hc hnl).mono ?_)
  rintro e w3 ⟨rfl, hp⟩
  go_wp2_with fail
  go_ret2
  exact ⟨rfl, hp⟩
end Go.Proofs.Ytikichifdkgobaa
