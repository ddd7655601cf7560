/- The walk of codec.reader's number. -/
import Derived.Test.YtgmimindhhpkgaaU8
import Derived.Test.YtgmimindhhpkgaaBits
import Derived.Test.YtgmimindhhpkgaaCodecPure
namespace Go.Proofs.Ytgmimindhhpkgaa
set_option linter.unusedVariables false
set_option linter.unusedSimpArgs false
open Go.RowKit

/-- The reader at block g, its bytes in what w0 holds. -/
def RdAt (w0 w : World) (g : Nat) (s : Rs) : Prop := ∃ A c, Blk w g 71 [.slice A s.1.length c, .bool s.2] ∧ s.1.length ≤ c ∧ RB w0 A s.1

theorem u64_join (x : Nat) (b : UInt8) (h : x < 72057594037927936) : bits .or .u64 ((x : Int) * 256) (IntKind.u64.wrap (b.toNat : Int)) = ((x * 256 + b.toNat : Nat) : Int) := by
  have hb := b.toNat_lt
  rw [IntWalk.u64_in _ (by omega)]
  have h2 := u64_or_nat (x * 256) b.toNat (by omega) (by omega)
  rw [nat_join 8 (x * 256) b.toNat (by omega) (by omega)] at h2
  rw [show (x : Int) * 256 = ((x * 256 : Nat) : Int) from by omega, h2]

set_option maxHeartbeats 1600000 in
theorem reader_any (k g : Nat) (s : Rs) (w0 w : World) (h : RdAt w0 w g s) (hb : Below w0.heap.size w0 w) (hg : w0.heap.size ≤ g) (hk : k ≤ 8) (hk0 : 0 < k) (hl : s.1.length ≤ 4000000) :
    Calls Try.prog 36 #[.pointer (some ⟨g, 0, none⟩), .int .i64 (k : Int)] w fun e w' => e = .returned (.int .u64 ((numR k s).1 : Int)) ∧ RdAt w0 w' g (numR k s).2 ∧ w.grownBy w' (some g) ∧ Below w0.heap.size w0 w' := by
  obtain ⟨A, c, hB, hc, hR⟩ := h
  obtain ⟨rest, broken⟩ := s
  simp only at hB hc hR hl
  have c0 := hB.cell 0
  have c1 := hB.cell 1
  simp only [List.getElem?_cons_zero, List.getElem?_cons_succ] at c0 c1
  have f0 := hB.frozen 0
  have f1 := hB.frozen 1
  by_cases hlt : rest.length < k
  · have hn : numR k (rest, broken) = (0, ([], true)) := by unfold numR; rw [if_pos hlt]
    rw [hn]
    have hlt2 : (rest.length : Int) < (k : Int) := by omega
    go_enter Try.func36, Try.ntmps36
    go_wp2
    go_ret
    refine ⟨rfl, ⟨none, 0, ?_, Nat.le_refl _, RC.nil _ _⟩, ?_, (hb.setCell hg _).setCell hg _⟩
    · have := (hB.set_ 1 (.bool true)).set_ 0 (.slice none 0 0)
      simpa using this
    · exact ⟨rfl, rfl, rfl, by simp [World.setCell], fun i hi hne => by
        rw [Below.heap_setCell _ _ _ _ (fun e => hne (by rw [e])), Below.heap_setCell _ _ _ _ (fun e => hne (by rw [e]))]⟩
  · have hn : numR k (rest, broken) = (val (rest.take k), (rest.drop k, broken)) := by unfold numR; rw [if_neg hlt]
    rw [hn]
    cases A with
    | none => exact absurd (show rest.length = 0 by cases rest with | nil => rfl | cons x r => obtain ⟨_, e, _⟩ := hR 0 _ rfl; cases e) (by omega)
    | some ad =>
    have hle : (k : Int) ≤ (rest.length : Int) := by omega
    have hnl : ¬ (rest.length : Int) < (k : Int) := by omega
    go_enter Try.func36, Try.ntmps36
    go_wp2
    go_loop [5, 28] (fun v i => ∃ j : Nat, j ≤ k ∧ i = .int .i64 (j : Int) ∧ v = .int .u64 (val (rest.take j) : Int)) (fun _ i => k - (intOf i).toNat)
    case atStart => exact ⟨0, Nat.zero_le _, rfl, rfl⟩
    case round =>
      obtain ⟨j, hj, rfl, rfl⟩ := hrel
      by_cases hjl : j < k
      · obtain ⟨ad', e, cb⟩ := hR.at_ j (by omega)
        injection e with e; subst e
        replace cb := cell_keep hb cb
        have hv := val_lt (rest.take j)
        have hv2 : val (rest.take j) < 72057594037927936 := by
          have h1 : (rest.take j).length ≤ 7 := by rw [List.length_take]; omega
          have h2 : 256 ^ (rest.take j).length ≤ 256 ^ 7 := Nat.pow_le_pow_right (by omega) h1
          have h3 : (256 : Nat) ^ 7 = 72057594037927936 := by decide
          omega
        have H1 : Hid (val (rest.take (j + 1)) = val (rest.take j) * 256 + (rest[j]'(by omega)).toNat) := by show val (rest.take (j + 1)) = _; rw [take_snoc _ _ (by omega), val_snoc]
        clear hv
        generalize val (rest.take j) = x at *
        generalize rest[j]'(by omega) = b at *
        have e1 := u64_join x b hv2
        go_wp2
        go_round
        case rel => exact ⟨j + 1, by omega, by go_num, by rw [H1.out]; go_num⟩
        case measure => simp [intOf]; omega
      · obtain rfl : j = k := by omega
        have HD := Lib.hid (hR.drop_ rfl j (by omega) hc)
        have hsf : ∀ u : Value, w.grownBy (w.setCell ⟨g, 0, none⟩ u) (some g) := fun u => ⟨rfl, rfl, rfl, by simp [World.setCell], fun i hi hne => Below.heap_setCell _ _ _ _ (fun e => hne (by rw [e]))⟩
        have hbl : ∀ u : Value, Blk (w.setCell ⟨g, 0, none⟩ u) g 71 [u, .bool broken] := fun u => by have := hB.set_ 0 u; simpa using this
        have HSF := Lib.hid hsf
        have HBL := Lib.hid hbl
        clear hsf hbl
        by_cases hcj : c = j
        · go_wp2
          go_ret
          refine ⟨rfl, ?_, HSF.out _, hb.setCell hg _⟩
          have h1 := HD.out
          rw [if_pos hcj] at h1
          exact ⟨_, _, by rw [List.length_drop]; exact HBL.out _, by rw [List.length_drop]; omega, h1⟩
        · go_wp2
          go_ret
          refine ⟨rfl, ?_, HSF.out _, hb.setCell hg _⟩
          have h1 := HD.out
          rw [if_neg hcj] at h1
          exact ⟨_, _, by rw [List.length_drop]; exact HBL.out _, by rw [List.length_drop]; omega, h1⟩
end Go.Proofs.Ytgmimindhhpkgaa
