/- The walk of the law SumRows. -/
import Derived.Test.YtgacikbjjdmcjaaSumSumsWalk
import Derived.Test.YtgacikbjjdmcjaaSumSlipsWalk
import Derived.Test.YtgacikbjjdmcjaaSumRowsPure
namespace Go.Proofs.Ytgacikbjjdmcjaa
set_option linter.unusedVariables false
set_option linter.unusedSimpArgs false
open Go.RowKit

theorem u16_join (x y : Nat) (hx : x < 256) (hy : y < 256) : bits .or .u16 ((x : Int) * 256) (y : Int) = ((256 * x + y : Nat) : Int) := by
  have h := u16_or_nat (x * 256) y (by omega) (by omega)
  rw [nat_join 8 (x * 256) y (by omega) (by omega)] at h
  rw [show (x : Int) * 256 = ((x * 256 : Nat) : Int) from by omega, h]
  omega

/-- What two stores beside each other want, and leave. -/
structure Two (w : World) (base e g n cap k : Nat) (l : List UInt8) (a b : UInt8) : Prop where
  c1 : ∃ u : UInt8, w.cell? ⟨g, k, none⟩ = some (.int .u8 (u.toNat : Int))
  f1 : w.frozen? ⟨g, k, none⟩ = false
  c2 : ∃ u : UInt8, (w.setCell ⟨g, k, none⟩ (.int .u8 (a.toNat : Int))).cell? ⟨g, k + 1, none⟩ = some (.int .u8 (u.toNat : Int))
  f2 : (w.setCell ⟨g, k, none⟩ (.int .u8 (a.toNat : Int))).frozen? ⟨g, k + 1, none⟩ = false
  own : ((w.setCell ⟨g, k, none⟩ (.int .u8 (a.toNat : Int))).setCell ⟨g, k + 1, none⟩ (.int .u8 (b.toNat : Int))).ownsRow base e 1 (.slice (some ⟨g, 0, none⟩) n cap) n (((l.set k a).set (k + 1) b).map bv)
theorem two_of {w : World} {base e g n cap : Nat} {l : List UInt8} (h : w.ownsRow base e 1 (.slice (some ⟨g, 0, none⟩) n cap) n (l.map bv)) (k : Nat) (hk : k + 1 < n) (a b : UInt8) : Two w base e g n cap k l a b := by
  have hl : l.length = n := by have := h.1; simpa using this
  have h1 := (h.stored k (bv a)).1
  rw [← List.map_set] at h1
  have h2 := (h1.stored (k + 1) (bv b)).1
  rw [← List.map_set] at h2
  have c1 := h.cellAt k (by omega)
  have c2 := h1.cellAt (k + 1) (by omega)
  rw [List.getElem?_map, List.getElem?_eq_getElem (by omega)] at c1
  rw [List.getElem?_map, List.getElem?_eq_getElem (by rw [List.length_set]; omega)] at c2
  exact ⟨⟨_, c1⟩, h.frozenAt k, ⟨_, c2⟩, h1.frozenAt (k + 1), h2⟩

def bearsT (w : World) (row : List UInt8) (A : Option Addr) (c : Nat) (at_ ch : Int) (n : Nat) : Prop :=
  Calls Try.prog 19 #[.slice A row.length c, .int .i64 at_, .int .i64 ch, .int .u16 (n : Int)] w fun e w' => e = .returned (.bool true) ∧ Below w.heap.size w w'

set_option maxRecDepth 100000 in
set_option maxHeartbeats 1600000 in
theorem bears_small (row : List UInt8) (A : Option Addr) (c : Nat) (at_ ch : Int) (n : Nat) (w : World) (l0 : row.length ≤ c) (r0 : RB w A row) (n0 : row.length ≤ 1048576)
    (h : row.length / 2 < 2 ∨ 40000 < row.length / 2) : bearsT w row A c at_ ch n := by
  unfold bearsT
  rcases h with h | h
  all_goals
    go_enter Try.func19, Try.ntmps19
    go_wp2_with fail
    refine (alive_any w).mono ?_
    rintro e w1 ⟨rfl, hb1⟩
    go_wp2_with fail
    go_ret
    exact ⟨rfl, hb1⟩

set_option maxRecDepth 100000 in
set_option maxHeartbeats 3200000 in
theorem bears_any (row : List UInt8) (A : Option Addr) (c : Nat) (at_ ch : Int) (n : Nat) (w : World) (l0 : row.length ≤ c) (r0 : RB w A row) (n0 : row.length ≤ 1048576) (hn : n ≤ 65535)
    (h1 : 2 ≤ row.length / 2) (h2 : row.length / 2 ≤ 40000) : bearsT w row A c at_ ch n := by
  unfold bearsT
  obtain ⟨i0, hi, hz0, hz1, hz2⟩ := info_parts info_u8
  obtain ⟨i, hi1, hi2⟩ := mod_index at_ (row.length / 2) (by omega)
  obtain ⟨j, hj1, hj2⟩ := mod_index ch (row.length / 2) (by omega)
  obtain ⟨m, hm⟩ : ∃ m, row.length / 2 = m := ⟨_, rfl⟩
  have hmi : (row.length : Int) / 2 = (m : Int) := by omega
  rw [hm] at hi1 hi2 hj1 hj2 h1 h2
  have hml : 2 * m ≤ row.length := by omega
  clear hm
  go_enter Try.func19, Try.ntmps19
  go_wp2_with fail
  refine (alive_any w).mono ?_
  rintro e w1 ⟨rfl, hb1⟩
  have t0 := hb1.size
  obtain ⟨u, hu, hU⟩ : ∃ u : List UInt8, u.length = 2 * m ∧ RB w A u := ⟨row.take (2 * m), by rw [List.length_take]; omega, r0.take_ _⟩
  have HU := Lib.hid hu
  clear hu
  go_wp2_with (at_builtin; refine wl_app _ rfl (.tmp 29) (.tmp 33) 30 rfl w.heap.size 5 i0 (.int .u8 0) 1 1 Try.underlying30 hi hz0 hz1 hz2 rfl (by omega) _ _ _ rfl (own_empty w1 w.heap.size 5 w1.heap.size rfl hb1.size) A (2 * m) c (u.map bv) rfl (by rw [List.length_map, HU.out, Nat.mul_one]) (hU.below (hb1.alloc hb1.size _)) (one_bv u) (by unfold maxLen; omega) (by omega) (by simp; omega) ?_)
  intro v2 w2 hown2 hg2 hat2
  have hb2 : Below w.heap.size w w2 := (hb1.alloc hb1.size _).grown hg2 (by simp; omega) (fun g hg => by simp [Value.ownBlock] at hg; omega)
  try simp only [Nat.zero_add, List.nil_append] at hown2
  clear hg2 hat2 hmi
  obtain ⟨g, cap, rfl, hbg, hlt⟩ := hown2.form (by omega)
  go_wp2_with fail
  have a1 : IntKind.u64.wrap (m : Int) = (m : Int) := IntWalk.u64_in _ (by omega)
  have a2 : ((m : Int) == 0) = false := by rw [beq_eq_false_iff_ne]; omega
  have a2' : ¬ (m : Int) = 0 := by omega
  have a2'' : ¬ m = 0 := by omega
  have a3 : IntKind.i64.wrap (i : Int) = (i : Int) := IntWalk.i64_in _ (by omega)
  have a4 : IntKind.i64.wrap (j : Int) = (j : Int) := IntWalk.i64_in _ (by omega)
  go_quiet (fail)
  clear a1 a2 a2' a2'' a3 a4 hi2 hj2
  have hb3 : Below w.heap.size w (w2.drewN nq) := ⟨hb2.os, hb2.tape, hb2.output, hb2.size, hb2.block⟩
  have hown3 : (w2.drewN nq).ownsRow w.heap.size 5 1 (.slice (some ⟨g, 0, none⟩) (2 * m) cap) (2 * m) (u.map bv) := hown2
  clear hown2 hb2
  generalize w2.drewN nq = w3 at *
  have T := two_of hown3 (2 * i) (by omega) 0 0
  obtain ⟨⟨_, c1⟩, f1, ⟨_, c2⟩, f2, hown4⟩ := T
  have hb4 := ((hb3.setCell (p := ⟨g, 2 * i, none⟩) hbg (.int .u8 ((0 : UInt8).toNat : Int))).setCell (p := ⟨g, 2 * i + 1, none⟩) hbg (.int .u8 ((0 : UInt8).toNat : Int)))
  rw [show (((0 : UInt8).toNat : Nat) : Int) = 0 from rfl] at c2 f2 hown4 hb4
  have hset : Hid ((u.set (2 * i) 0).set (2 * i + 1) 0 = setw u i 0) := rfl
  rw [hset.out] at hown4
  clear hset hown3 hb3
  generalize hq : setw u i 0 = q at *
  have hql : q.length = 2 * m := by rw [← hq, setw_len, HU.out]
  have hq0 : Hid (wordAt q i = 0) := by show wordAt q i = 0; rw [← hq]; exact word_setw u i 0 (by rw [HU.out]; omega) (by omega)
  have HQ := Lib.hid hq
  clear hq
  go_wp2_with fail
  have hk4 : (((w3.setCell ⟨g, 2 * i, none⟩ (.int .u8 0)).setCell ⟨g, 2 * i + 1, none⟩ (.int .u8 0))).heap.size = w3.heap.size := by simp [World.setCell]
  generalize (w3.setCell ⟨g, 2 * i, none⟩ (.int .u8 0)).setCell ⟨g, 2 * i + 1, none⟩ (.int .u8 0) = w4 at *
  rw [← hk4]
  clear c1 f1 c2 f2
  obtain ⟨B, cb, hv, hcb, hB, -⟩ := own_form hown4
  injection hv with hv1 hv2 hv3
  subst hv1 hv3
  clear hv2
  have R4 : RB w4 _ q := hB
  clear hB
  have HQL := Lib.hid hql
  refine (sum_any [q] _ _ _ ?s1 (by simp) (by simp; omega)).mono ?_
  case s1 => rw [← HQL.out]; exact rp1 _ _ _ _ q (by omega) R4 (by simp)
  rintro e w5 ⟨rfl, hw⟩
  have hb5 : Below w.heap.size w w5 := by rw [hw]; exact hb4.alloc hb4.size _
  have hown5 : w5.ownsRow w.heap.size 5 1 (.slice (some ⟨g, 0, none⟩) (2 * m) cap) (2 * m) (q.map bv) := by rw [hw]; exact hown4.alloc _
  clear hw hb4 hown4 R4 hk4
  rw [show [q].flatten = q from by simp]
  have hCle : cks q ≤ 65535 := by unfold cks; omega
  generalize hC : cks q = C at *
  have HC := Lib.hid hC
  clear hC
  have e1 : IntKind.u8.wrap ((C : Int) / 256) = ((UInt8.ofNat (C / 256)).toNat : Int) := by rw [byte_hi C hCle, IntKind.wrap_u8]; omega
  have e2 : IntKind.u8.wrap (C : Int) = ((UInt8.ofNat C).toNat : Int) := by rw [byte_lo, IntKind.wrap_u8]; omega
  obtain ⟨⟨_, c1⟩, f1, ⟨_, c2⟩, f2, hown6⟩ := two_of hown5 (2 * i) (by omega) (UInt8.ofNat (C / 256)) (UInt8.ofNat C)
  have hb6 := ((hb5.setCell (p := ⟨g, 2 * i, none⟩) hbg (.int .u8 ((UInt8.ofNat (C / 256)).toNat : Int))).setCell (p := ⟨g, 2 * i + 1, none⟩) hbg (.int .u8 ((UInt8.ofNat C).toNat : Int)))
  have hset : Hid ((q.set (2 * i) (UInt8.ofNat (C / 256))).set (2 * i + 1) (UInt8.ofNat C) = setw q i C) := rfl
  rw [hset.out] at hown6
  clear hset hown5 hb5
  generalize hxa : UInt8.ofNat (C / 256) = xa at *
  generalize hxb : UInt8.ofNat C = xb at *
  clear hxa hxb
  by_cases hz : C = 65535
  · have z1 : ((C : Int) == 65535) = true := by rw [hz]; rfl
    clear hz
    go_wp2_with fail
    go_ret
    exact ⟨rfl, hb6⟩
  have z1 : ((C : Int) == 65535) = false := by rw [beq_eq_false_iff_ne]; omega
  have hgood : Hid (cks (setw q i C) = 0) := by
    show cks (setw q i C) = 0
    rw [← HC.out]
    exact bears_own q i (by rw [HQL.out]; omega) hq0.out (by rw [HC.out]; exact hz)
  by_cases hij : i = j
  · have z2 : ((i : Int) == (j : Int)) = true := by rw [hij]; simp
    clear hij
    go_wp2_with fail
    have hk6 : ((w5.setCell ⟨g, 2 * i, none⟩ (.int .u8 (xa.toNat : Int))).setCell ⟨g, 2 * i + 1, none⟩ (.int .u8 (xb.toNat : Int))).heap.size = w5.heap.size := by simp [World.setCell]
    generalize (w5.setCell ⟨g, 2 * i, none⟩ (.int .u8 (xa.toNat : Int))).setCell ⟨g, 2 * i + 1, none⟩ (.int .u8 (xb.toNat : Int)) = w6 at *
    rw [← hk6]
    have R6 : RB w6 (some ⟨g, 0, none⟩) (setw q i C) := RC.of_own hown6
    have hl6 : (setw q i C).length = 2 * m := by rw [setw_len, HQL.out]
    clear c1 f1 c2 f2
    refine (good_any [setw q i C] _ _ _ ?s1 (by simp) (by simp; omega)).mono ?_
    case s1 => rw [← hl6]; exact rp1 _ _ _ _ _ (by omega) R6 (by simp)
    rintro e w7 ⟨rfl, hw⟩
    have hb7 : Below w.heap.size w w7 := by rw [hw]; exact hb6.alloc hb6.size _
    clear hw
    rw [show [setw q i C].flatten = setw q i C from by simp, hgood.out]
    go_wp2_with fail
    go_ret
    exact ⟨rfl, hb7⟩
  have z2 : ((i : Int) == (j : Int)) = false := by rw [beq_eq_false_iff_ne]; omega
  have hk6 : ((w5.setCell ⟨g, 2 * i, none⟩ (.int .u8 (xa.toNat : Int))).setCell ⟨g, 2 * i + 1, none⟩ (.int .u8 (xb.toNat : Int))).heap.size = w5.heap.size := by simp [World.setCell]
  go_wp2_with fail
  generalize (w5.setCell ⟨g, 2 * i, none⟩ (.int .u8 (xa.toNat : Int))).setCell ⟨g, 2 * i + 1, none⟩ (.int .u8 (xb.toNat : Int)) = w6 at *
  clear c1 f1 c2 f2 e1 e2
  have R6 : RB w6 (some ⟨g, 0, none⟩) (setw q i C) := RC.of_own hown6
  have hl6 : (setw q i C).length = 2 * m := by rw [setw_len, HQL.out]
  have ho := word_other q i j C hij
  generalize hq6 : setw q i C = q6 at *
  obtain ⟨_, e, c1⟩ := R6.at_ (2 * j) (by omega)
  injection e with e; subst e
  obtain ⟨_, e, c2⟩ := R6.at_ (2 * j + 1) (by omega)
  injection e with e; subst e
  rw [add_lit0] at c1 c2
  have hwd : Hid (wordAt q j = 256 * (q6[2 * j]'(by omega)).toNat + (q6[2 * j + 1]'(by omega)).toNat) := by
    show wordAt q j = _
    rw [← ho]
    unfold wordAt
    rw [List.getD_eq_getElem?_getD, List.getD_eq_getElem?_getD, List.getElem?_eq_getElem (by omega), List.getElem?_eq_getElem (by omega)]
    rfl
  have hx8 := (q6[2 * j]'(by omega)).toNat_lt
  have hy8 := (q6[2 * j + 1]'(by omega)).toNat_lt
  generalize (q6[2 * j]'(by omega)).toNat = x at *
  generalize (q6[2 * j + 1]'(by omega)).toNat = y at *
  have HQ6 := Lib.hid hq6
  have HO := Lib.hid ho
  have HL6 := Lib.hid hl6
  clear hq6 ho hl6
  go_quiet (fail)
  have e3 := u16_join x y (by omega) (by omega)
  generalize hold : 256 * x + y = old at *
  clear hold c1 c2 R6
  have hb7 : Below w.heap.size w (w6.drewN nq) := ⟨hb6.os, hb6.tape, hb6.output, hb6.size, hb6.block⟩
  have hown7 : (w6.drewN nq).ownsRow w.heap.size 5 1 (.slice (some ⟨g, 0, none⟩) (2 * m) cap) (2 * m) (q6.map bv) := hown6
  clear hown6 hb6 hk6
  generalize w6.drewN nq = w7 at *
  go_wp2_with fail
  have R7 : RB w7 (some ⟨g, 0, none⟩) q6 := RC.of_own hown7
  refine (good_any [q6] _ _ _ ?s2 (by simp) (by simp; rw [HL6.out]; omega)).mono ?_
  case s2 => rw [← HL6.out]; exact rp1 _ _ _ _ _ (by rw [HL6.out]; omega) R7 (by simp)
  rintro e w8 ⟨rfl, hw⟩
  have hb8 : Below w.heap.size w w8 := by rw [hw]; exact hb7.alloc hb7.size _
  have hown8 : w8.ownsRow w.heap.size 5 1 (.slice (some ⟨g, 0, none⟩) (2 * m) cap) (2 * m) (q6.map bv) := by rw [hw]; exact hown7.alloc _
  clear hw hb7 hown7 R7
  rw [show [q6].flatten = q6 from by simp, hgood.out]
  go_wp2_with fail
  have hol : old ≤ 65535 := by have := word_lt q j; rw [hwd.out] at this; exact this
  refine (update_any C [(old, n)] _ _ _ hCle ?s3 (by simp)).mono ?_
  case s3 => exact RQ.mk (by intro p hp; simp at hp; subst hp; exact ⟨hol, hn⟩) (rc_at _ [.int .u16 (old : Int), .int .u16 (n : Int)] _ _ (by simp))
  rintro e w9 ⟨rfl, hb9'⟩
  have hb9 : Below w.heap.size w w9 := (hb8.alloc hb8.size _).trans (hb9'.mono (by have := hb8.size; simp; omega))
  have hown9 : w9.ownsRow w.heap.size 5 1 (.slice (some ⟨g, 0, none⟩) (2 * m) cap) (2 * m) (q6.map bv) := own_below (hown8.alloc _) hb9'
  clear hb9' hb8 hown8
  have hU1 : Hid (upd C [(old, n)] = upd1 (cks q) (wordAt q j, n)) := by show upd C [(old, n)] = _; rw [hwd.out, HC.out]; rfl
  have hd := upd_le hCle [(old, n)]
  generalize upd C [(old, n)] = d at *
  have e5 : IntKind.u8.wrap ((n : Int) / 256) = ((UInt8.ofNat (n / 256)).toNat : Int) := by rw [byte_hi n hn, IntKind.wrap_u8]; omega
  have e6 : IntKind.u8.wrap (n : Int) = ((UInt8.ofNat n).toNat : Int) := by rw [byte_lo, IntKind.wrap_u8]; omega
  obtain ⟨⟨_, c1⟩, f1, ⟨_, c2⟩, f2, hown10⟩ := two_of hown9 (2 * j) (by omega) (UInt8.ofNat (n / 256)) (UInt8.ofNat n)
  have hb10 := ((hb9.setCell (p := ⟨g, 2 * j, none⟩) hbg (.int .u8 ((UInt8.ofNat (n / 256)).toNat : Int))).setCell (p := ⟨g, 2 * j + 1, none⟩) hbg (.int .u8 ((UInt8.ofNat n).toNat : Int)))
  have hset : Hid ((q6.set (2 * j) (UInt8.ofNat (n / 256))).set (2 * j + 1) (UInt8.ofNat n) = setw q6 j n) := rfl
  rw [hset.out] at hown10
  clear hset hown9 hb9
  generalize UInt8.ofNat (n / 256) = xa at *
  generalize UInt8.ofNat n = xb at *
  generalize hw10 : (w9.setCell ⟨g, 2 * j, none⟩ (.int .u8 (xa.toNat : Int))).setCell ⟨g, 2 * j + 1, none⟩ (.int .u8 (xb.toNat : Int)) = w10 at *
  obtain ⟨⟨_, c3⟩, f3, ⟨_, c4⟩, f4, hown11⟩ := two_of hown10 (2 * i) (by omega) 0 0
  have hb11 := ((hb10.setCell (p := ⟨g, 2 * i, none⟩) hbg (.int .u8 ((0 : UInt8).toNat : Int))).setCell (p := ⟨g, 2 * i + 1, none⟩) hbg (.int .u8 ((0 : UInt8).toNat : Int)))
  rw [show (((0 : UInt8).toNat : Nat) : Int) = 0 from rfl] at c4 f4 hown11 hb11
  have hset : Hid (((setw q6 j n).set (2 * i) 0).set (2 * i + 1) 0 = setw q j n) := by
    show setw (setw q6 j n) i 0 = setw q j n
    rw [← HQ6.out, ← HQ.out]
    exact setw_back u i j C n hij
  rw [hset.out] at hown11
  clear hset hown10 hb10
  subst hw10
  go_wp2_with fail
  have hk11 : ((((w9.setCell ⟨g, 2 * j, none⟩ (.int .u8 (xa.toNat : Int))).setCell ⟨g, 2 * j + 1, none⟩ (.int .u8 (xb.toNat : Int))).setCell ⟨g, 2 * i, none⟩ (.int .u8 0)).setCell ⟨g, 2 * i + 1, none⟩ (.int .u8 0)).heap.size = w9.heap.size := by simp [World.setCell]
  generalize (((w9.setCell ⟨g, 2 * j, none⟩ (.int .u8 (xa.toNat : Int))).setCell ⟨g, 2 * j + 1, none⟩ (.int .u8 (xb.toNat : Int))).setCell ⟨g, 2 * i, none⟩ (.int .u8 0)).setCell ⟨g, 2 * i + 1, none⟩ (.int .u8 0) = w11 at *
  rw [← hk11]
  clear c1 f1 c2 f2 c3 f3 c4 f4 e5 e6
  have hfin : Hid (cks (setw q j n) ≠ 65535 → cks (setw (setw q j n) i d) = 0) := by
    show cks (setw q j n) ≠ 65535 → cks (setw (setw q j n) i d) = 0
    intro hz2
    rw [hU1.out]
    exact bears_new q i j n (by rw [HQL.out]; omega) (by rw [HQL.out]; omega) hij hn hq0.out hz2
  have hl11 : (setw q j n).length = 2 * m := by rw [setw_len, HQL.out]
  have HL11 := Lib.hid hl11
  clear hl11
  have HS11 : Hid (∀ (hn : 2 * m = 2 * m), (setw (setw q j n) i d).length = 2 * m) := by show ∀ (hn : 2 * m = 2 * m), (setw (setw q j n) i d).length = 2 * m; intro _; rw [setw_len, setw_len, HQL.out]
  generalize setw q j n = q2 at *
  have R11 : RB w11 (some ⟨g, 0, none⟩) q2 := RC.of_own hown11
  refine (sum_any [q2] _ _ _ ?s4 (by simp) (by simp; rw [HL11.out]; omega)).mono ?_
  case s4 => rw [← HL11.out]; exact rp1 _ _ _ _ _ (by rw [HL11.out]; omega) R11 (by simp)
  rintro e w12 ⟨rfl, hw⟩
  have hb12 : Below w.heap.size w w12 := by rw [hw]; exact hb11.alloc hb11.size _
  have hown12 : w12.ownsRow w.heap.size 5 1 (.slice (some ⟨g, 0, none⟩) (2 * m) cap) (2 * m) (q2.map bv) := by rw [hw]; exact hown11.alloc _
  clear hw hb11 hown11 R11 hk11
  rw [show [q2].flatten = q2 from by simp]
  generalize cks q2 = C2 at *
  by_cases hz2 : C2 = 65535
  · have z3 : ((C2 : Int) == 65535) = true := by rw [hz2]; rfl
    clear hz2
    go_wp2_with fail
    go_ret
    exact ⟨rfl, hb12⟩
  have z3 : ((C2 : Int) == 65535) = false := by rw [beq_eq_false_iff_ne]; omega
  have hlast : Hid (cks (setw q2 i d) = 0) := hfin.out hz2
  have e5 : IntKind.u8.wrap ((d : Int) / 256) = ((UInt8.ofNat (d / 256)).toNat : Int) := by rw [byte_hi d hd, IntKind.wrap_u8]; omega
  have e6 : IntKind.u8.wrap (d : Int) = ((UInt8.ofNat d).toNat : Int) := by rw [byte_lo, IntKind.wrap_u8]; omega
  obtain ⟨⟨_, c1⟩, f1, ⟨_, c2⟩, f2, hown13⟩ := two_of hown12 (2 * i) (by omega) (UInt8.ofNat (d / 256)) (UInt8.ofNat d)
  have hb13 := ((hb12.setCell (p := ⟨g, 2 * i, none⟩) hbg (.int .u8 ((UInt8.ofNat (d / 256)).toNat : Int))).setCell (p := ⟨g, 2 * i + 1, none⟩) hbg (.int .u8 ((UInt8.ofNat d).toNat : Int)))
  have hset : Hid ((q2.set (2 * i) (UInt8.ofNat (d / 256))).set (2 * i + 1) (UInt8.ofNat d) = setw q2 i d) := rfl
  rw [hset.out] at hown13
  clear hset hown12 hb12
  generalize UInt8.ofNat (d / 256) = ya at *
  generalize UInt8.ofNat d = yb at *
  go_wp2_with fail
  have hk13 : ((w12.setCell ⟨g, 2 * i, none⟩ (.int .u8 (ya.toNat : Int))).setCell ⟨g, 2 * i + 1, none⟩ (.int .u8 (yb.toNat : Int))).heap.size = w12.heap.size := by simp [World.setCell]
  generalize (w12.setCell ⟨g, 2 * i, none⟩ (.int .u8 (ya.toNat : Int))).setCell ⟨g, 2 * i + 1, none⟩ (.int .u8 (yb.toNat : Int)) = w13 at *
  rw [← hk13]
  clear c1 f1 c2 f2 e5 e6
  have hl13 : (setw q2 i d).length = 2 * m := HS11.out trivial
  have R13 : RB w13 (some ⟨g, 0, none⟩) (setw q2 i d) := RC.of_own hown13
  refine (good_any [setw q2 i d] _ _ _ ?s5 (by simp) (by simp; omega)).mono ?_
  case s5 => rw [← hl13]; exact rp1 _ _ _ _ _ (by omega) R13 (by simp)
  rintro e w14 ⟨rfl, hw⟩
  have hb14 : Below w.heap.size w w14 := by rw [hw]; exact hb13.alloc hb13.size _
  clear hw
  rw [show [setw q2 i d].flatten = setw q2 i d from by simp, hlast.out]
  go_wp2_with fail
  go_ret
  exact ⟨rfl, hb14⟩

set_option maxHeartbeats 400000 in
theorem SumRows_walk (row : List UInt8) (A : Option Addr) (c : Nat) (at_ ch : Int) (n : Nat) (w : World) (l0 : row.length ≤ c) (r0 : RB w A row) (n0 : row.length ≤ 1048576) (hn : n ≤ 65535) :
    Calls Try.prog 8 #[.agg #[.slice A row.length c, .int .i64 at_, .int .i64 ch, .int .u16 (n : Int)]] w fun e w' => e = .returned (.bool true) ∧ Below w.heap.size w w' := by
  have hT : ∀ W, Below w.heap.size w W → Calls Try.prog 19 #[.slice A row.length c, .int .i64 at_, .int .i64 ch, .int .u16 (n : Int)] W fun e w' => e = .returned (.bool true) ∧ Below W.heap.size W w' := fun W hW => by
    by_cases h : row.length / 2 < 2 ∨ 40000 < row.length / 2
    · exact bears_small row A c at_ ch n W l0 (r0.below hW) n0 h
    · exact bears_any row A c at_ ch n W l0 (r0.below hW) n0 hn (by omega) (by omega)
  have HT := Lib.hid hT
  clear hT
  go_enter Try.func8, Try.ntmps8
  go_wp2_with fail
  refine (HT.out _ ((Below.refl _ _).alloc (Nat.le_refl _) _)).mono ?_
  rintro e w' ⟨rfl, hb⟩
  go_wp2_with fail
  go_ret
  exact ⟨rfl, ((Below.refl _ w).alloc (Nat.le_refl _) _).trans (hb.mono (by simp))⟩
end Go.Proofs.Ytgacikbjjdmcjaa
