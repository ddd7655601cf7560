/- Bits of whole numbers. -/
import Derived.Test.YtbhdjalpkecbeaaApp
import Derived.Test.YtbhdjalpkecbeaaSumPure
namespace Go.Proofs.Ytbhdjalpkecbeaa
set_option linter.unusedVariables false
set_option linter.unusedSimpArgs false
open Go.RowKit

theorem nat_not (k n : Nat) (h : n < 2 ^ k) : (2 ^ k - 1) ^^^ n = 2 ^ k - 1 - n := by
  have h1 := BitVec.toNat_not (x := BitVec.ofNat k n)
  rw [BitVec.not_def, BitVec.toNat_xor, BitVec.toNat_allOnes, BitVec.toNat_ofNat, Nat.mod_eq_of_lt h] at h1
  exact h1
theorem not16 (n : Nat) (h : n ≤ 65535) : bits .xor .u16 IntKind.u16.max (n : Int) = ((65535 - n : Nat) : Int) := by
  have h1 := u16_xor_nat 65535 n (by omega) (by omega)
  rw [nat_not 16 n (by omega)] at h1
  exact h1

theorem not32 (n : Nat) (h : n ≤ 4294967295) : bits .xor .u32 IntKind.u32.max (n : Int) = ((4294967295 - n : Nat) : Int) := by
  have h1 := u32_xor_nat 4294967295 n (by omega) (by omega)
  rw [nat_not 32 n (by omega)] at h1
  exact h1
theorem u32_and1 (n : Nat) (h : n < 4294967296) : bits .and .u32 (n : Int) 1 = ((n % 2 : Nat) : Int) := by
  have h1 := u32_and_nat n 1 h (by omega)
  rw [nat_mask1] at h1
  exact h1
theorem u32_poly (n : Nat) (h : n < 4294967296) : bits .xor .u32 (n : Int) 3988292384 = ((n ^^^ 3988292384 : Nat) : Int) := u32_xor_nat n 3988292384 h (by omega)
theorem u32_byte (n : Nat) (b : UInt8) (h : n < 4294967296) : bits .xor .u32 (n : Int) (b.toNat : Int) = ((n ^^^ b.toNat : Nat) : Int) := u32_xor_nat n b.toNat h (by have := b.toNat_lt; omega)


end Go.Proofs.Ytbhdjalpkecbeaa
