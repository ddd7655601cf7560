/- The walk of Over. -/
import Derived.Test.YtkgkbmiacomhdaaCopy
import Derived.Test.YtkgkbmiacomhdaaGrow
namespace Go.Proofs.Ytkgkbmiacomhdaa
set_option linter.unusedVariables false
set_option linter.unusedSimpArgs false
open Go.RowKit

theorem u8_xorB (a b : UInt8) : bits .xor .u8 (a.toNat : Int) (b.toNat : Int) = ((a ^^^ b).toNat : Int) := by
  rw [UInt8.toNat_xor]
  exact u8_xor_nat _ _ (by have := a.toNat_lt; omega) (by have := b.toNat_lt; omega)

set_option maxHeartbeats 800000 in
theorem over_any (xs : List UInt8) (g c n : Nat) (hn : n ≤ xs.length) (hn4 : n ≤ 4000000) (w : World) (hg : Blk w g 5 (xs.map bv)) :
    Calls Try.prog 18 #[.slice (some ⟨g, 0, none⟩) n c] w fun e w' => (∃ v, e = .returned v) ∧ w.grownBy w' (some g) := by
  go_enter Try.func18, Try.ntmps18
  go_wp2_with fail
  go_loopw [5] (fun i wr => ∃ (k : Nat) (ys : List UInt8), k ≤ n ∧ i = .int .i64 (k : Int) ∧ Hid (n ≤ ys.length) ∧ Blk wr g 5 (ys.map bv) ∧ w.grownBy wr (some g)) (fun i _ => n - (intOf i).toNat)
  case atStart => exact ⟨0, xs, Nat.zero_le _, rfl, hn, hg, World.grownBy.refl w _⟩
  case round =>
    obtain ⟨k, ys, hk, rfl, HL, hb, hgr⟩ := hrel
    by_cases hlt : k < n
    · have hkl : k < ys.length := by have := HL.out; omega
      have cc := hb.cell k
      rw [List.getElem?_map, List.getElem?_eq_getElem hkl] at cc
      have cf := hb.frozen k
      have HB : Hid (Blk (wr.setCell ⟨g, k, none⟩ (bv (ys[k] ^^^ 255))) g 5 ((ys.set k (ys[k] ^^^ 255)).map bv)) := by
        have h := hb.set_ k (bv (ys[k] ^^^ 255))
        rw [← List.map_set] at h
        exact h
      have hx : bits .xor .u8 (ys[k].toNat : Int) 255 = ((ys[k] ^^^ 255).toNat : Int) := u8_xorB ys[k] 255
      simp only [Option.map_some, bv] at cc
      generalize ys[k] = y at *
      generalize hz : y ^^^ 255 = z at *
      clear hz
      go_wp2
      go_roundw
      case rel => exact ⟨k + 1, _, by omega, by go_num, by have := HL.out; show _ ≤ (ys.set k z).length; simpa using this, HB.out, hgr.trans (grown_set wr g k _)⟩
      case measure => simp [intOf]; omega
    · go_wp2
      refine bodyPost_end (results_none rfl _ _ _) rfl ?_
      exact ⟨⟨_, rfl⟩, hgr⟩
end Go.Proofs.Ytkgkbmiacomhdaa
