/- The walks of Ints and of Over at a row of the call's own. -/
import Derived.Test.YtikichifdkgobaaFabRefD
import Derived.Test.YtikichifdkgobaaOver
import Derived.Test.YtikichifdkgobaaErr
namespace Go.Proofs.Ytikichifdkgobaa
set_option linter.unusedVariables false
set_option linter.unusedSimpArgs false
open Go.RowKit

theorem take_eq_step {xs ys : List Int} {k : Nat} (h : xs.take k = ys.take k) (hx : k < xs.length) (hy : k < ys.length) (he : xs[k] = ys[k]) : xs.take (k + 1) = ys.take (k + 1) := by
  rw [take_snoc _ _ hx, take_snoc _ _ hy, h, he]

set_option maxHeartbeats 800000 in
theorem ints_any (xs ys : List Int) (A B : Option Addr) (c d : Nat) (w : World) (hA : RC w A (xs.map (Value.int .i64))) (hB : RC w B (ys.map (Value.int .i64))) (hx : xs.length ≤ 4000000) :
    Calls Try.prog 30 #[.slice A xs.length c, .slice B ys.length d] w fun e w' => e = .returned (.bool (decide (xs = ys))) ∧ Below w.heap.size w w' := by
  by_cases hl : xs.length = ys.length
  · have hle : ((xs.length : Int) == (ys.length : Int)) = true := by simp [hl]
    go_enter Try.func30, Try.ntmps30
    have HL := Lib.hid hl
    clear hl
    go_wp2_with fail
    go_loopw [13] (fun i wr => ∃ k : Nat, k ≤ xs.length ∧ i = .int .i64 (k : Int) ∧ Hid (xs.take k = ys.take k) ∧ Below w.heap.size w wr) (fun i _ => xs.length - (intOf i).toNat)
    case atStart => exact ⟨0, Nat.zero_le _, rfl, rfl, Below.refl _ _⟩
    case round =>
      obtain ⟨k, hk, rfl, HT, hb⟩ := hrel
      by_cases hlt : k < xs.length
      · have hlt2 : k < ys.length := by have := HL.out; omega
        obtain ⟨a1, rfl, c1⟩ := hA k (.int .i64 xs[k]) (by rw [List.getElem?_map, List.getElem?_eq_getElem hlt]; rfl)
        obtain ⟨a2, rfl, c2⟩ := hB k (.int .i64 ys[k]) (by rw [List.getElem?_map, List.getElem?_eq_getElem hlt2]; rfl)
        replace c1 := cell_keep hb c1
        replace c2 := cell_keep hb c2
        by_cases he : xs[k] = ys[k]
        · have HE := Lib.hid (take_eq_step HT.out hlt hlt2 he)
          generalize ys[k] = y at *
          generalize xs[k] = x at *
          subst he
          have i1 : (k : Int) < (xs.length : Int) := by omega
          have i2 : (k : Int) < (ys.length : Int) := by omega
          go_wp2
          go_quiet (fail)
          go_wp2
          go_roundw
          case rel => exact ⟨k + 1, by omega, by go_num, HE.out, ⟨hb.os, hb.tape, hb.output, hb.size, hb.block⟩⟩
          case measure => simp [intOf]; omega
        · have HE : Hid (decide (xs = ys) = false) := by
            apply decide_eq_false
            rintro rfl
            exact he rfl
          have hne : (xs[k] == ys[k]) = false := beq_eq_false_iff_ne.2 he
          clear he
          generalize ys[k] = y at *
          generalize xs[k] = x at *
          have i1 : (k : Int) < (xs.length : Int) := by omega
          have i2 : (k : Int) < (ys.length : Int) := by omega
          go_wp2
          go_quiet (fail)
          go_wp2
          go_ret
          exact ⟨by rw [HE.out]; rfl, ⟨hb.os, hb.tape, hb.output, hb.size, hb.block⟩⟩
      · obtain rfl : k = xs.length := by omega
        have HE : Hid (decide (xs = ys) = true) := by
          apply decide_eq_true
          have h := HT.out
          rw [List.take_length, HL.out, List.take_length] at h
          exact h
        go_wp2
        go_ret
        exact ⟨by rw [HE.out]; rfl, hb⟩
  · have hle : ((xs.length : Int) == (ys.length : Int)) = false := by simp; omega
    have HE : Hid (decide (xs = ys) = false) := by
      apply decide_eq_false
      rintro rfl
      exact hl rfl
    clear hl
    go_enter Try.func30, Try.ntmps30
    go_wp2
    go_ret
    exact ⟨by rw [HE.out]; rfl, Below.refl _ _⟩

set_option maxHeartbeats 800000 in
theorem over_own (xs : List UInt8) (base : Nat) (A : Option Addr) (n c : Nat) (w : World) (hn : n ≤ 4000000) (hO : w.ownsRow base 5 1 (.slice A n c) n (xs.map bv)) :
    Calls Try.prog 26 #[.slice A n c] w fun e w' => (∃ v, e = .returned v) ∧ w.grownBy w' (Value.slice A n c).ownBlock := by
  go_enter Try.func26, Try.ntmps26
  go_wp2_with fail
  go_loopw [5] (fun i wr => ∃ (k : Nat) (ys : List UInt8), k ≤ n ∧ i = .int .i64 (k : Int) ∧ Hid (wr.ownsRow base 5 1 (.slice A n c) n (ys.map bv)) ∧ Hid (w.grownBy wr (Value.slice A n c).ownBlock)) (fun i _ => n - (intOf i).toNat)
  case atStart => exact ⟨0, xs, Nat.zero_le _, rfl, hO, World.grownBy.refl w _⟩
  case round =>
    obtain ⟨k, ys, hk, rfl, HO, HG⟩ := hrel
    by_cases hlt : k < n
    · obtain ⟨g, c9, he, hge, hgl⟩ := own_headE HO.out (by omega)
      injection he with he1 he2 he3
      subst he1 he3
      have cc := own_cellE HO.out k hlt
      have hyl : ys.length = n := by have := HO.out.1; simp at this; omega
      have hkl : k < ys.length := by omega
      rw [List.getElem?_map, List.getElem?_eq_getElem hkl] at cc
      have cf := HO.out.frozenAt k
      have HST : Hid ((wr.setCell ⟨g, k, none⟩ (bv (ys[k] ^^^ 255))).ownsRow base 5 1 (.slice (some ⟨g, 0, none⟩) n c) n ((ys.set k (ys[k] ^^^ 255)).map bv)) := by
        have h := (HO.out.stored k (bv (ys[k] ^^^ 255))).1
        rw [← List.map_set] at h
        exact h
      have hx : bits .xor .u8 (ys[k].toNat : Int) 255 = ((ys[k] ^^^ 255).toNat : Int) := u8_xorB ys[k] 255
      simp only [Option.map_some, bv] at cc
      generalize ys[k] = y at *
      generalize hz : y ^^^ 255 = z at *
      clear hz
      go_wp2
      go_roundw
      case rel => exact ⟨k + 1, _, by omega, by go_num, HST.out, HG.out.trans (grown_set wr g k _)⟩
      case measure => simp [intOf]; omega
    · go_wp2
      refine bodyPost_end (results_none rfl _ _ _) rfl ?_
      exact ⟨⟨_, rfl⟩, HG.out⟩
end Go.Proofs.Ytikichifdkgobaa
