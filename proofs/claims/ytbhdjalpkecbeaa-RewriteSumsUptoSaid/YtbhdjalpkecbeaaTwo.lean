/- The walks of packet.two, four of bytes. -/
import Derived.Test.YtbhdjalpkecbeaaPkt
import Derived.Test.YtbhdjalpkecbeaaBits
import Derived.Deep.QuietTactic
import Derived.BigQuiet
import Derived.Laws.Bits128
namespace Go.Proofs.Ytbhdjalpkecbeaa
set_option linter.unusedVariables false
set_option linter.unusedSimpArgs false
open Go.RowKit

theorem i64_join8 (x y : Nat) (hx : x < 256) (hy : y < 256) : bits .or .i64 ((x : Int) * 256) (y : Int) = ((256 * x + y : Nat) : Int) := by
  have e1 : (x : Int) * 256 = ((x * 256 : Nat) : Int) := by omega
  have key : (BitVec.ofInt 64 ((x * 256 : Nat) : Int) ||| BitVec.ofInt 64 (y : Int)).toNat = x * 256 + y := by
    rw [BitVec.toNat_or, BitVec.ofInt_natCast, BitVec.ofInt_natCast, BitVec.toNat_ofNat, BitVec.toNat_ofNat, Nat.mod_eq_of_lt (by omega), Nat.mod_eq_of_lt (by omega)]
    exact nat_join 8 (x * 256) y (by omega) (by omega)
  rw [e1]
  show IntKind.i64.wrap ((BitVec.ofInt 64 ((x * 256 : Nat) : Int) ||| BitVec.ofInt 64 (y : Int)).toNat : Nat) = _
  rw [key, IntKind.wrap_i64]
  omega
theorem u32_join16 (x y : Nat) (hx : x < 65536) (hy : y < 65536) : bits .or .u32 ((x : Int) * 65536) (y : Int) = ((x * 65536 + y : Nat) : Int) := by
  have e1 : (x : Int) * 65536 = ((x * 65536 : Nat) : Int) := by omega
  rw [e1, u32_or_nat _ _ (by omega) (by omega), nat_join 16 (x * 65536) y (by omega) (by omega)]
theorem b1_lt (b : List UInt8) (i : Nat) : b1 b i < 256 := by unfold b1; exact (b.getD i 0).toNat_lt
theorem b2_lt (b : List UInt8) (i : Nat) : b2 b i < 65536 := by have := b1_lt b i; have := b1_lt b (i + 1); unfold b2; omega

set_option maxHeartbeats 800000 in
theorem btwo_any (b : List UInt8) (A : Option Addr) (n c i : Nat) (i' : Int) (w : World) (hA : RB w A b) (hn : b.length = n) (hi : i + 1 < n) (hl : n ≤ 4000000) (ei : i' = (i : Int)) :
    Calls Try.prog 52 #[.slice A n c, .int .i64 i'] w fun e w' => e = .returned (.int .i64 (b2 b i : Int)) ∧ ∃ k, w' = w.drewN k := by
  subst hn ei
  obtain ⟨ad, rfl, c0⟩ := hA.at_ i (by omega)
  obtain ⟨ad', e, c1⟩ := hA.at_ (i + 1) (by omega)
  injection e with e
  subst e
  have e0 : b1 b i = b[i].toNat := by unfold b1; simp [List.getD, List.getElem?_eq_getElem (show i < b.length by omega)]
  have e1 : b1 b (i + 1) = b[i + 1].toNat := by unfold b1; simp [List.getD, List.getElem?_eq_getElem (show i + 1 < b.length by omega)]
  have HE : Hid (b2 b i = 256 * b[i].toNat + b[i + 1].toNat) := by show b2 b i = _; unfold b2; rw [e0, e1]
  clear e0 e1
  generalize b[i]'(by omega) = x at *
  generalize b[i + 1] = y at *
  rw [add_pos' ad (i + 1) (by omega)] at c1
  have hxl := x.toNat_lt
  have hyl := y.toNat_lt
  have w1 : IntKind.i64.wrap (x.toNat : Int) = (x.toNat : Int) := IntWalk.i64_in _ (by omega)
  have w2 : IntKind.i64.wrap ((x.toNat : Int) * 256) = (x.toNat : Int) * 256 := IntWalk.i64_in _ (by omega)
  have w3 : IntKind.i64.wrap (y.toNat : Int) = (y.toNat : Int) := IntWalk.i64_in _ (by omega)
  have w4 := i64_join8 x.toNat y.toNat hxl hyl
  rw [← HE.out] at w4
  have i1 : (i : Int) < (b.length : Int) := by omega
  have i2 : (i : Int) + 1 < (b.length : Int) := by omega
  have i0 : (0 : Int) ≤ (i : Int) := by omega
  have i3 : (0 : Int) ≤ (i : Int) + 1 := by omega
  have i4 : ((i : Int) + 1).toNat = i + 1 := by omega
  have i5 : IntKind.i64.wrap ((i : Int) + 1) = (i : Int) + 1 := IntWalk.i64_in _ (by omega)
  go_enter Try.func52, Try.ntmps52
  go_wp2_with fail
  go_quiet (fail)
  go_wp2_with fail
  go_ret
  exact ⟨rfl, _, rfl⟩
set_option maxHeartbeats 800000 in
theorem bfour_any (b : List UInt8) (A : Option Addr) (n c i : Nat) (i' : Int) (w : World) (hA : RB w A b) (hn : b.length = n) (hi : i + 3 < n) (hl : n ≤ 4000000) (ei : i' = (i : Int)) :
    Calls Try.prog 53 #[.slice A n c, .int .i64 i'] w fun e w' => e = .returned (.int .u32 (b4 b i : Int)) ∧ ∃ k, w' = w.drewN k := by
  subst ei
  have h1 := b2_lt b i
  have h2 := b2_lt b (i + 2)
  have HE : Hid (b4 b i = b2 b i * 65536 + b2 b (i + 2)) := rfl
  go_enter Try.func53, Try.ntmps53
  go_wp2_with fail
  (with_reducible refine (btwo_any b A n c i _ w hA hn (by omega) hl rfl).mono ?_)
  rintro e w1 ⟨rfl, k, hk⟩
  have hA1 : RB w1 A b := by rw [hk]; exact hA
  have HK := Lib.hid hk
  clear hk
  go_wp2_with fail
  (with_reducible refine (btwo_any b A n c (i + 2) _ w1 hA1 hn (by omega) hl (by omega)).mono ?_)
  rintro e w2 ⟨rfl, k2, hk2⟩
  have HK2 := Lib.hid hk2
  clear hk2
  have w4 := u32_join16 (b2 b i) (b2 b (i + 2)) h1 h2
  rw [← HE.out] at w4
  go_wp2_with fail
  go_ret
  exact ⟨rfl, _, by rw [HK2.out, HK.out, World.drewN_drewN]⟩
theorem btwo_b (b : List UInt8) (A : Option Addr) (n c i : Nat) (i' : Int) (w : World) (hA : RB w A b) (hn : b.length = n) (hi : i + 1 < n) (hl : n ≤ 4000000) (ei : i' = (i : Int)) :
    Calls Try.prog 52 #[.slice A n c, .int .i64 i'] w fun e w' => e = .returned (.int .i64 (b2 b i : Int)) ∧ Below w.heap.size w w' :=
  (btwo_any b A n c i i' w hA hn hi hl ei).mono fun e w' ⟨h, k, hk⟩ => ⟨h, by rw [hk]; exact ⟨rfl, rfl, rfl, Nat.le_refl _, fun _ _ => rfl⟩⟩
theorem bfour_b (b : List UInt8) (A : Option Addr) (n c i : Nat) (i' : Int) (w : World) (hA : RB w A b) (hn : b.length = n) (hi : i + 3 < n) (hl : n ≤ 4000000) (ei : i' = (i : Int)) :
    Calls Try.prog 53 #[.slice A n c, .int .i64 i'] w fun e w' => e = .returned (.int .u32 (b4 b i : Int)) ∧ Below w.heap.size w w' :=
  (bfour_any b A n c i i' w hA hn hi hl ei).mono fun e w' ⟨h, k, hk⟩ => ⟨h, by rw [hk]; exact ⟨rfl, rfl, rfl, Nat.le_refl _, fun _ _ => rfl⟩⟩
theorem b1_drop (b : List UInt8) (k i : Nat) : b1 (b.drop k) i = b1 b (k + i) := by unfold b1; simp [List.getD, List.getElem?_drop]
theorem b2_drop (b : List UInt8) (k i : Nat) : b2 (b.drop k) i = b2 b (k + i) := by unfold b2; rw [b1_drop, b1_drop, Nat.add_assoc]
theorem b4_drop (b : List UInt8) (k i : Nat) : b4 (b.drop k) i = b4 b (k + i) := by unfold b4; rw [b2_drop, b2_drop, Nat.add_assoc]
/-- A byte read. -/
theorem rb_b1 {w : World} {ad : Addr} {b : List UInt8} (h : RB w (some ad) b) (i : Nat) (hi : i < b.length) (h0 : 0 < i) : w.cell? ⟨ad.block, ad.off + i, none⟩ = some (.int .u8 (b1 b i : Int)) := by
  obtain ⟨ad', e, hc⟩ := h.at_ i hi
  injection e with e
  subst e
  rw [add_pos' ad i h0] at hc
  rw [hc]
  unfold b1
  simp [List.getD, List.getElem?_eq_getElem hi]
end Go.Proofs.Ytbhdjalpkecbeaa
