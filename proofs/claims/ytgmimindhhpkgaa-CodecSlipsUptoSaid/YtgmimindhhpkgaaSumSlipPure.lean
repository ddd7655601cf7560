/- CRC-32 tells every change of one byte. -/
import Derived.Test.YtgmimindhhpkgaaSumPure
namespace Go.Proofs.Ytgmimindhhpkgaa
set_option linter.unusedVariables false
set_option linter.unusedSimpArgs false

/-! ### one byte changed -/
theorem xor_cancel {a b c : Nat} (h : a ^^^ c = b ^^^ c) : a = b := by
  have := congrArg (· ^^^ c) h
  simpa [Nat.xor_assoc] using this
theorem xor_cancel' {a b c : Nat} (h : c ^^^ a = c ^^^ b) : a = b := xor_cancel (c := c) (by rw [Nat.xor_comm a, Nat.xor_comm b]; exact h)
theorem crc1_apart {r s : Nat} (hr : r < 2147483648) (hs : s < 2147483648) : r ^^^ 3988292384 ≠ s := by
  intro h
  have h1 := congrArg (fun x => x.testBit 31) h
  simp only [Nat.testBit_xor] at h1
  rw [Nat.testBit_lt_two_pow (x := r) (i := 31) (by omega), Nat.testBit_lt_two_pow (x := s) (i := 31) (by omega)] at h1
  revert h1
  decide
theorem crc1_inj {r s : Nat} (hr : r < 4294967296) (hs : s < 4294967296) (h : crc1 r = crc1 s) : r = s := by
  unfold crc1 at h
  split at h <;> split at h
  · have := xor_cancel h; omega
  · exact absurd h (crc1_apart (by omega) (by omega))
  · exact absurd h.symm (crc1_apart (by omega) (by omega))
  · omega
theorem crcN_inj : ∀ (k : Nat) {r s : Nat}, r < 4294967296 → s < 4294967296 → crcN k r = crcN k s → r = s
  | 0, _, _, _, _, h => h
  | k + 1, _, _, hr, hs, h => crcN_inj k hr hs (crc1_inj (crcN_lt hr k) (crcN_lt hs k) h)
theorem crcB_inj {r s : Nat} (hr : r < 4294967296) (hs : s < 4294967296) (b : UInt8) (h : crcB r b = crcB s b) : r = s :=
  xor_cancel (crcN_inj 8 (xor_lt32 hr (by have := b.toNat_lt; omega)) (xor_lt32 hs (by have := b.toNat_lt; omega)) h)
theorem crcL_inj : ∀ (l : List UInt8) {r s : Nat}, r < 4294967296 → s < 4294967296 → crcL r l = crcL s l → r = s
  | [], _, _, _, _, h => h
  | b :: l, _, _, hr, hs, h => crcB_inj hr hs b (crcL_inj l (crcB_lt hr b) (crcB_lt hs b) h)
theorem crc_slip (p s : List UInt8) (x y : UInt8) (h : x ≠ y) : crc (p ++ x :: s) ≠ crc (p ++ y :: s) := by
  intro e
  have hl : ∀ z, crcL 4294967295 (p ++ z :: s) = crcL (crcB (crcL 4294967295 p) z) s := fun z => by unfold crcL; rw [List.foldl_append]; rfl
  have h0 := crcL_lt (r := 4294967295) (by omega) p
  have hb : ∀ z, crcB (crcL 4294967295 p) z < 4294967296 := fun z => crcB_lt h0 z
  have hx := crcL_lt (hb x) s
  have hy := crcL_lt (hb y) s
  unfold crc at e
  rw [hl, hl] at e
  have e2 : crcB (crcL 4294967295 p) x = crcB (crcL 4294967295 p) y := crcL_inj s (hb x) (hb y) (by omega)
  have hx8 := x.toNat_lt
  have hy8 := y.toNat_lt
  have e3 := xor_cancel' (crcN_inj 8 (xor_lt32 h0 (by omega)) (xor_lt32 h0 (by omega)) e2)
  exact h (UInt8.toNat_inj.1 e3)

end Go.Proofs.Ytgmimindhhpkgaa
