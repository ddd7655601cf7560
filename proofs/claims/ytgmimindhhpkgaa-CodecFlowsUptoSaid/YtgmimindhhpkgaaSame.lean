/- The walks of Ints, slices.Equal, Num, large; of the two Sames. -/
import Derived.Test.YtgmimindhhpkgaaFrame
import Derived.Test.YtgmimindhhpkgaaClone
import Derived.Deep.LoopGhost
namespace Go.Proofs.Ytgmimindhhpkgaa
set_option linter.unusedVariables false
set_option linter.unusedSimpArgs false
open Go.RowKit

theorem take_eq_step {xs ys : List Int} {k : Nat} (h : xs.take k = ys.take k) (hx : k < xs.length) (hy : k < ys.length) (he : xs[k] = ys[k]) : xs.take (k + 1) = ys.take (k + 1) := by
  rw [take_snoc _ _ hx, take_snoc _ _ hy, h, he]

set_option maxHeartbeats 800000 in
theorem ints_any (xs ys : List Int) (A B : Option Addr) (c d : Nat) (w : World) (hA : RC w A (xs.map (Value.int .i64))) (hB : RC w B (ys.map (Value.int .i64))) (hx : xs.length ≤ 4000000) :
    Calls Try.prog 28 #[.slice A xs.length c, .slice B ys.length d] w fun e w' => e = .returned (.bool (decide (xs = ys))) ∧ Below w.heap.size w w' := by
  by_cases hl : xs.length = ys.length
  · have hle : ((xs.length : Int) == (ys.length : Int)) = true := by simp [hl]
    go_enter Try.func28, Try.ntmps28
    have HL := Lib.hid hl
    clear hl
    go_wp2_with fail
    go_loopw [13] (fun i wr => ∃ k : Nat, k ≤ xs.length ∧ i = .int .i64 (k : Int) ∧ Hid (xs.take k = ys.take k) ∧ Below w.heap.size w wr) (fun i _ => xs.length - (intOf i).toNat)
    case atStart => exact ⟨0, Nat.zero_le _, rfl, rfl, Below.refl _ _⟩
    case round =>
      obtain ⟨k, hk, rfl, HT, hb⟩ := hrel
      by_cases hlt : k < xs.length
      · have hlt2 : k < ys.length := by have := HL.out; omega
        obtain ⟨a1, rfl, c1⟩ := hA k (.int .i64 xs[k]) (by rw [List.getElem?_map, List.getElem?_eq_getElem hlt]; rfl)
        obtain ⟨a2, rfl, c2⟩ := hB k (.int .i64 ys[k]) (by rw [List.getElem?_map, List.getElem?_eq_getElem hlt2]; rfl)
        replace c1 := cell_keep hb c1
        replace c2 := cell_keep hb c2
        by_cases he : xs[k] = ys[k]
        · have HE := Lib.hid (take_eq_step HT.out hlt hlt2 he)
          generalize ys[k] = y at *
          generalize xs[k] = x at *
          subst he
          have i1 : (k : Int) < (xs.length : Int) := by omega
          have i2 : (k : Int) < (ys.length : Int) := by omega
          go_wp2
          go_quiet (fail)
          go_wp2
          go_roundw
          case rel => exact ⟨k + 1, by omega, by go_num, HE.out, ⟨hb.os, hb.tape, hb.output, hb.size, hb.block⟩⟩
          case measure => simp [intOf]; omega
        · have HE : Hid (decide (xs = ys) = false) := by
            apply decide_eq_false
            rintro rfl
            exact he rfl
          have hne : (xs[k] == ys[k]) = false := beq_eq_false_iff_ne.2 he
          clear he
          generalize ys[k] = y at *
          generalize xs[k] = x at *
          have i1 : (k : Int) < (xs.length : Int) := by omega
          have i2 : (k : Int) < (ys.length : Int) := by omega
          go_wp2
          go_quiet (fail)
          go_wp2
          go_ret
          exact ⟨by rw [HE.out]; rfl, ⟨hb.os, hb.tape, hb.output, hb.size, hb.block⟩⟩
      · obtain rfl : k = xs.length := by omega
        have HE : Hid (decide (xs = ys) = true) := by
          apply decide_eq_true
          have h := HT.out
          rw [List.take_length, HL.out, List.take_length] at h
          exact h
        go_wp2
        go_ret
        exact ⟨by rw [HE.out]; rfl, hb⟩
  · have hle : ((xs.length : Int) == (ys.length : Int)) = false := by simp; omega
    have HE : Hid (decide (xs = ys) = false) := by
      apply decide_eq_false
      rintro rfl
      exact hl rfl
    clear hl
    go_enter Try.func28, Try.ntmps28
    go_wp2
    go_ret
    exact ⟨by rw [HE.out]; rfl, Below.refl _ _⟩

set_option maxHeartbeats 800000 in
theorem sequal_any (xs ys : List Int) (A B : Option Addr) (c d : Nat) (w : World) (hA : RC w A (xs.map (Value.int .i64))) (hB : RC w B (ys.map (Value.int .i64))) (hx : xs.length ≤ 4000000) :
    Calls Try.prog 39 #[.slice A xs.length c, .slice B ys.length d] w fun e w' => e = .returned (.bool (decide (xs = ys))) ∧ Below w.heap.size w w' := by
  by_cases hl : xs.length = ys.length
  · have hle : ((xs.length : Int) == (ys.length : Int)) = true := by simp [hl]
    go_enter Try.func39, Try.ntmps39
    have HL := Lib.hid hl
    clear hl
    go_wp2_with fail
    go_loopw [13] (fun i wr => ∃ k : Nat, k ≤ xs.length ∧ i = .int .i64 (k : Int) ∧ Hid (xs.take k = ys.take k) ∧ Below w.heap.size w wr) (fun i _ => xs.length - (intOf i).toNat)
    case atStart => exact ⟨0, Nat.zero_le _, rfl, rfl, Below.refl _ _⟩
    case round =>
      obtain ⟨k, hk, rfl, HT, hb⟩ := hrel
      by_cases hlt : k < xs.length
      · have hlt2 : k < ys.length := by have := HL.out; omega
        obtain ⟨a1, rfl, c1⟩ := hA k (.int .i64 xs[k]) (by rw [List.getElem?_map, List.getElem?_eq_getElem hlt]; rfl)
        obtain ⟨a2, rfl, c2⟩ := hB k (.int .i64 ys[k]) (by rw [List.getElem?_map, List.getElem?_eq_getElem hlt2]; rfl)
        replace c1 := cell_keep hb c1
        replace c2 := cell_keep hb c2
        by_cases he : xs[k] = ys[k]
        · have HE := Lib.hid (take_eq_step HT.out hlt hlt2 he)
          generalize ys[k] = y at *
          generalize xs[k] = x at *
          subst he
          have i1 : (k : Int) < (xs.length : Int) := by omega
          have i2 : (k : Int) < (ys.length : Int) := by omega
          go_wp2
          go_quiet (fail)
          go_wp2
          go_roundw
          case rel => exact ⟨k + 1, by omega, by go_num, HE.out, ⟨hb.os, hb.tape, hb.output, hb.size, hb.block⟩⟩
          case measure => simp [intOf]; omega
        · have HE : Hid (decide (xs = ys) = false) := by
            apply decide_eq_false
            rintro rfl
            exact he rfl
          have hne : (xs[k] == ys[k]) = false := beq_eq_false_iff_ne.2 he
          clear he
          generalize ys[k] = y at *
          generalize xs[k] = x at *
          have i1 : (k : Int) < (xs.length : Int) := by omega
          have i2 : (k : Int) < (ys.length : Int) := by omega
          go_wp2
          go_quiet (fail)
          go_wp2
          go_ret
          exact ⟨by rw [HE.out]; rfl, ⟨hb.os, hb.tape, hb.output, hb.size, hb.block⟩⟩
      · obtain rfl : k = xs.length := by omega
        have HE : Hid (decide (xs = ys) = true) := by
          apply decide_eq_true
          have h := HT.out
          rw [List.take_length, HL.out, List.take_length] at h
          exact h
        go_wp2
        go_ret
        exact ⟨by rw [HE.out]; rfl, hb⟩
  · have hle : ((xs.length : Int) == (ys.length : Int)) = false := by simp; omega
    have HE : Hid (decide (xs = ys) = false) := by
      apply decide_eq_false
      rintro rfl
      exact hl rfl
    clear hl
    go_enter Try.func39, Try.ntmps39
    go_wp2
    go_ret
    exact ⟨by rw [HE.out]; rfl, Below.refl _ _⟩

/-- Are two messages the same? -/
def same (a b : Mg) : Bool := decide (a.kind = b.kind) && (decide (a.nums = b.nums) && decide (a.data = b.data))
theorem same_iff (a b : Mg) : same a b = true ↔ a = b := by
  obtain ⟨a1, a2, a3⟩ := a
  obtain ⟨b1, b2, b3⟩ := b
  simp [same]

set_option maxHeartbeats 1600000 in
theorem same_any (a b : Mg) (u v : Value) (w : World) (hu : MgV w u a) (hv : MgV w v b) (hl : a.nums.length ≤ 4000000) :
    Calls Try.prog 23 #[u, v] w fun e w' => e = .returned (.bool (same a b)) ∧ Below w.heap.size w w' := by
  obtain ⟨A, c, B, d, rfl, lc, ld, hA, hB, -, -⟩ := hu
  obtain ⟨A2, c2, B2, d2, rfl, lc2, ld2, hA2, hB2, -, -⟩ := hv
  have hb0 : Below w.heap.size w ((w.alloc (.cells #[.int .i64 a.kind, .slice A a.nums.length c, .slice B a.data.length d] 25)).alloc (.cells #[.int .i64 b.kind, .slice A2 b.nums.length c2, .slice B2 b.data.length d2] 25)) :=
    ((Below.refl _ w).alloc (Nat.le_refl _) _).alloc (by simp) _
  have hX : Blk ((w.alloc (.cells #[.int .i64 a.kind, .slice A a.nums.length c, .slice B a.data.length d] 25)).alloc (.cells #[.int .i64 b.kind, .slice A2 b.nums.length c2, .slice B2 b.data.length d2] 25)) w.heap.size 25 [.int .i64 a.kind, .slice A a.nums.length c, .slice B a.data.length d] := (Blk.new w _ _).alloc _
  have hY : Blk ((w.alloc (.cells #[.int .i64 a.kind, .slice A a.nums.length c, .slice B a.data.length d] 25)).alloc (.cells #[.int .i64 b.kind, .slice A2 b.nums.length c2, .slice B2 b.data.length d2] 25)) (w.heap.size + 1) 25 [.int .i64 b.kind, .slice A2 b.nums.length c2, .slice B2 b.data.length d2] := by
    simpa using Blk.new (w.alloc (.cells #[.int .i64 a.kind, .slice A a.nums.length c, .slice B a.data.length d] 25)) 25 [.int .i64 b.kind, .slice A2 b.nums.length c2, .slice B2 b.data.length d2]
  by_cases hk : a.kind = b.kind
  · by_cases hn : a.nums = b.nums
    · have HE : Hid (same a b = decide (a.data = b.data)) := by show same a b = _; unfold same; rw [decide_eq_true hk, decide_eq_true hn]; rfl
      have hkb : (a.kind == b.kind) = true := by simp [hk]
      have HN := Lib.hid hn
      clear hn hk
      go_enter Try.func23, Try.ntmps23
      go_wp2_with fail
      refine (sequal_any a.nums b.nums A A2 c c2 _ (hA.below hb0) (hA2.below hb0) hl).mono ?_
      rintro e w3 ⟨rfl, hb3⟩
      rw [show decide (a.nums = b.nums) = true from decide_eq_true HN.out]
      obtain ⟨cX0, cX1, cX2⟩ := blk3 (hX.kept hb3)
      obtain ⟨cY0, cY1, cY2⟩ := blk3 (hY.kept hb3)
      have hb4 := hb0.trans (hb3.mono (by simp; omega))
      go_wp2_with fail
      refine (equal_any a.data b.data B B2 d d2 _ (hB.below hb4) (hB2.below hb4)).mono ?_
      rintro e w4 ⟨rfl, rfl⟩
      go_wp2_with fail
      go_ret
      exact ⟨by rw [HE.out]; rfl, hb4⟩
    · have HE : Hid (same a b = false) := by show same a b = _; unfold same; rw [decide_eq_false hn]; simp
      have hkb : (a.kind == b.kind) = true := by simp [hk]
      have HN := Lib.hid hn
      clear hn hk
      go_enter Try.func23, Try.ntmps23
      go_wp2_with fail
      refine (sequal_any a.nums b.nums A A2 c c2 _ (hA.below hb0) (hA2.below hb0) hl).mono ?_
      rintro e w3 ⟨rfl, hb3⟩
      rw [show decide (a.nums = b.nums) = false from decide_eq_false HN.out]
      have hb4 := hb0.trans (hb3.mono (by simp; omega))
      go_wp2_with fail
      go_ret
      exact ⟨by rw [HE.out]; rfl, hb4⟩
  · have HE : Hid (same a b = false) := by show same a b = _; unfold same; rw [decide_eq_false hk]; simp
    have hkb : (a.kind == b.kind) = false := beq_eq_false_iff_ne.2 hk
    clear hk
    go_enter Try.func23, Try.ntmps23
    go_wp2_with fail
    go_ret
    exact ⟨by rw [HE.out]; rfl, hb0⟩

set_option maxHeartbeats 1600000 in
theorem rsame_any (a b : Mg) (u v : Value) (w : World) (hu : MgV w u a) (hv : MgV w v b) (hl : a.nums.length ≤ 4000000) :
    Calls Try.prog 20 #[u, v] w fun e w' => e = .returned (.bool (same a b)) ∧ Below w.heap.size w w' := by
  obtain ⟨A, c, B, d, rfl, lc, ld, hA, hB, -, -⟩ := hu
  obtain ⟨A2, c2, B2, d2, rfl, lc2, ld2, hA2, hB2, -, -⟩ := hv
  obtain ⟨ka, xs, da⟩ := a
  obtain ⟨kb, ys, db⟩ := b
  simp only at lc ld lc2 ld2 hA hB hA2 hB2 hl ⊢
  have hb0 : Below w.heap.size w ((w.alloc (.cells #[.int .i64 ka, .slice A xs.length c, .slice B da.length d] 25)).alloc (.cells #[.int .i64 kb, .slice A2 ys.length c2, .slice B2 db.length d2] 25)) :=
    ((Below.refl _ w).alloc (Nat.le_refl _) _).alloc (by simp) _
  have s1 := run_str (P := Try.prog) _ _ _ _ Try.underlying23 Try.underlying5 Try.underlying9 _ _ d _ (RB.below hB hb0) rfl
  have s2 := run_str (P := Try.prog) _ _ _ _ Try.underlying23 Try.underlying5 Try.underlying9 _ _ d2 _ (RB.below hB2 hb0) rfl
  have hX : Blk ((w.alloc (.cells #[.int .i64 ka, .slice A xs.length c, .slice B da.length d] 25)).alloc (.cells #[.int .i64 kb, .slice A2 ys.length c2, .slice B2 db.length d2] 25)) w.heap.size 25 [.int .i64 ka, .slice A xs.length c, .slice B da.length d] := (Blk.new w _ _).alloc _
  have hY : Blk ((w.alloc (.cells #[.int .i64 ka, .slice A xs.length c, .slice B da.length d] 25)).alloc (.cells #[.int .i64 kb, .slice A2 ys.length c2, .slice B2 db.length d2] 25)) (w.heap.size + 1) 25 [.int .i64 kb, .slice A2 ys.length c2, .slice B2 db.length d2] := by
    simpa using Blk.new (w.alloc (.cells #[.int .i64 ka, .slice A xs.length c, .slice B da.length d] 25)) 25 [.int .i64 kb, .slice A2 ys.length c2, .slice B2 db.length d2]
  have hcm := beq_bs da db
  generalize bs da = q1 at *
  generalize bs db = q2 at *
  by_cases hk : ka = kb
  · subst hk
    by_cases hln : xs.length = ys.length
    · by_cases hd : da = db
      · have hcm2 : (q1.toList == q2.toList) = true := by rw [hcm]; exact decide_eq_true hd
        have HE : Hid (same { kind := ka, nums := xs, data := da } { kind := ka, nums := ys, data := db } = decide (xs = ys)) := by show same { kind := ka, nums := xs, data := da } { kind := ka, nums := ys, data := db } = _; unfold same; rw [decide_eq_true rfl, decide_eq_true hd]; simp
        clear hcm hd
        generalize hm : ys.length = m at *
        generalize hm2 : xs.length = m2 at *
        subst hln
        have HM := Lib.hid hm
        have HM2 := Lib.hid hm2
        clear hm hm2
        go_enter Try.func20, Try.ntmps20
        go_wp2_with fail
        generalize ((w.alloc (.cells #[.int .i64 ka, .slice A m2 c, .slice B da.length d] 25)).alloc (.cells #[.int .i64 ka, .slice A2 m2 c2, .slice B2 db.length d2] 25)) = wa at *
        go_loopw [5] (fun i wr => ∃ k : Nat, k ≤ m2 ∧ i = .int .i64 (k : Int) ∧ Hid (xs.take k = ys.take k) ∧ Below wa.heap.size wa wr) (fun i _ => m2 - (intOf i).toNat)
        case atStart => exact ⟨0, Nat.zero_le _, rfl, rfl, Below.refl _ _⟩
        case round =>
          obtain ⟨k, hk, rfl, HT, hbr⟩ := hrel
          have hb := hb0.trans (hbr.mono hb0.size)
          obtain ⟨cX0, cX1, cX2⟩ := blk3 (hX.kept hbr)
          obtain ⟨cY0, cY1, cY2⟩ := blk3 (hY.kept hbr)
          by_cases hkm : k < m2
          · have hlt : k < xs.length := by have := HM2.out; omega
            have hlt2 : k < ys.length := by have := HM.out; omega
            obtain ⟨a1, rfl, c1⟩ := hA k (.int .i64 xs[k]) (by rw [List.getElem?_map, List.getElem?_eq_getElem hlt]; rfl)
            obtain ⟨a2, rfl, c2⟩ := hA2 k (.int .i64 ys[k]) (by rw [List.getElem?_map, List.getElem?_eq_getElem hlt2]; rfl)
            replace c1 := cell_keep hb c1
            replace c2 := cell_keep hb c2
            by_cases he : xs[k] = ys[k]
            · have HEE := Lib.hid (take_eq_step HT.out hlt hlt2 he)
              generalize ys[k] = y at *
              generalize xs[k] = x at *
              subst he
              have i1 : (k : Int) < (m2 : Int) := by omega
              clear hlt hlt2
              go_wp2
              go_quiet (fail)
              go_wp2
              go_roundw
              case rel => exact ⟨k + 1, by omega, by go_num, HEE.out, ⟨hbr.os, hbr.tape, hbr.output, hbr.size, hbr.block⟩⟩
              case measure => simp [intOf]; omega
            · have HEE : Hid (decide (xs = ys) = false) := by
                apply decide_eq_false
                rintro rfl
                exact he rfl
              have hne : (xs[k] == ys[k]) = false := beq_eq_false_iff_ne.2 he
              clear he
              generalize ys[k] = y at *
              generalize xs[k] = x at *
              have i1 : (k : Int) < (m2 : Int) := by omega
              clear hlt hlt2
              go_wp2
              go_quiet (fail)
              go_wp2
              go_ret
              exact ⟨by rw [HE.out, HEE.out]; rfl, ⟨hb.os, hb.tape, hb.output, hb.size, hb.block⟩⟩
          · obtain rfl : k = m2 := by omega
            have HEE : Hid (decide (xs = ys) = true) := by
              apply decide_eq_true
              have h := HT.out
              rw [List.take_of_length_le (by rw [HM2.out]; exact Nat.le_refl _), List.take_of_length_le (by rw [HM.out]; exact Nat.le_refl _)] at h
              exact h
            go_wp2
            go_ret
            exact ⟨by rw [HE.out, HEE.out]; rfl, hb⟩
      · have hcm2 : (q1.toList == q2.toList) = false := by rw [hcm]; exact decide_eq_false hd
        have HE : Hid (same { kind := ka, nums := xs, data := da } { kind := ka, nums := ys, data := db } = false) := by show same { kind := ka, nums := xs, data := da } { kind := ka, nums := ys, data := db } = _; unfold same; rw [decide_eq_false hd]; simp
        clear hcm hd
        generalize hm : ys.length = m at *
        generalize hm2 : xs.length = m2 at *
        subst hln
        have HM := Lib.hid hm
        have HM2 := Lib.hid hm2
        clear hm hm2
        go_enter Try.func20, Try.ntmps20
        go_wp2_with fail
        go_ret
        exact ⟨by rw [HE.out]; rfl, hb0⟩
    · have hlb : ((xs.length : Int) == (ys.length : Int)) = false := by simp; omega
      have hlb2 : ((xs.length : Int) != (ys.length : Int)) = true := by simp; omega
      have HE : Hid (same { kind := ka, nums := xs, data := da } { kind := ka, nums := ys, data := db } = false) := by
        show same _ _ = _
        unfold same
        simp only
        rw [show decide (xs = ys) = false from decide_eq_false (fun e => hln (congrArg List.length e))]
        simp
      clear hcm hln
      go_enter Try.func20, Try.ntmps20
      go_wp2_with fail
      go_ret
      exact ⟨by rw [HE.out]; rfl, hb0⟩
  · have HE : Hid (same { kind := ka, nums := xs, data := da } { kind := kb, nums := ys, data := db } = false) := by show same { kind := ka, nums := xs, data := da } { kind := kb, nums := ys, data := db } = _; unfold same; rw [decide_eq_false hk]; simp
    have hkb : (ka == kb) = false := beq_eq_false_iff_ne.2 hk
    have hkb2 : (ka != kb) = true := by simp [hk]
    clear hk hcm
    go_enter Try.func20, Try.ntmps20
    go_wp2_with fail
    go_ret
    exact ⟨by rw [HE.out]; rfl, hb0⟩

/-! ### small ones -/
theorem large_any (n : Int) (w : World) : Calls Try.prog 11 #[.int .i64 n] w fun e w' => e = .returned (.bool (decide (131072 < n))) ∧ w' = w := by
  go_enter Try.func11, Try.ntmps11
  go_wp2
  go_ret
  exact ⟨rfl, rfl⟩
theorem num_nil (w : World) : Calls Try.prog 15 #[.nilIface] w fun e w' => e = .returned (.int .i64 0) ∧ w' = w := by
  go_enter Try.func15, Try.ntmps15
  go_wp2
  go_ret
  exact ⟨rfl, rfl⟩
theorem as_errno (v : Value) (W : World) : (Instr.typeAssert (.iface 47 v) 30 47 true).run Try.prog W = .ok (.tuple #[v, .bool true]) W := by kernel_rfl
theorem num_er (k : Int) (hk : k ≠ 0) (w : World) : Calls Try.prog 15 #[er k] w fun e w' => e = .returned (.int .i64 k) ∧ w' = w := by
  have hkb : (k == 0) = false := beq_eq_false_iff_ne.2 hk
  clear hk
  have ha := as_errno (.int .i64 k) w
  go_enter Try.func15, Try.ntmps15
  go_wp2
  go_ret
  exact ⟨rfl, rfl⟩
end Go.Proofs.Ytgmimindhhpkgaa
