/- The walk of the document's Unwrap. -/
import Derived.Test.YtjehllgipfanmaaRefWrap
namespace Go.Proofs.Ytjehllgipfanmaa
set_option linter.unusedVariables false
set_option linter.unusedSimpArgs false
open Go.RowKit

/-- The number of the k bytes from i on. -/
def ac (b : List UInt8) (i : Nat) : Nat → Nat
  | 0 => 0
  | k + 1 => ac b i k * 256 + b1 b (i + k)
theorem ac_lt (b : List UInt8) (i k : Nat) : ac b i k < 256 ^ k := by
  induction k with
  | zero => simp [ac]
  | succ k ih =>
    have h := b1_lt b (i + k)
    rw [Nat.pow_succ]
    show ac b i k * 256 + b1 b (i + k) < _
    omega
theorem ac_lt3 (b : List UInt8) (i k : Nat) (h : k < 4) : ac b i k < 16777216 := by
  have h1 := ac_lt b i k
  have h2 : (256 : Nat) ^ k ≤ 256 ^ 3 := Nat.pow_le_pow_right (by omega) (by omega)
  have h3 : (256 : Nat) ^ 3 = 16777216 := by decide
  omega
theorem ac4 (b : List UInt8) (i : Nat) : ac b i 4 = b4 b i := by
  simp only [ac, b4, b2]
  show (((0 * 256 + b1 b (i + 0)) * 256 + b1 b (i + 1)) * 256 + b1 b (i + 2)) * 256 + b1 b (i + 3) = (256 * b1 b (i + 0) + b1 b (i + 1)) * 65536 + (256 * b1 b (i + 2) + b1 b (i + 3))
  omega
/-- What the document's Unwrap answers. -/
def RUPost (w : World) (b : List UInt8) (e : Ending) (w' : World) : Prop :=
  ((IsWb b ∧ ∃ v, e = .returned (.tuple #[.int .u32 (b4 b 12 : Int), .int .u32 (b4 b 16 : Int), v, .int .i64 0]) ∧ w'.ownsRow w.heap.size 5 1 v (b.length - 20) ((b.drop 20).map bv)) ∨ (¬ IsWb b ∧ e = .returned (.tuple #[.int .u32 0, .int .u32 0, .slice none 0 0, .int .i64 2]))) ∧ Below w.heap.size w w'
set_option maxRecDepth 100000 in
set_option maxHeartbeats 1600000 in
theorem runwrap_short (b : List UInt8) (A : Option Addr) (n c : Nat) (w : World) (hn : b.length = n) (h : n < 20) :
    Calls Try.prog 16 #[.slice A n c] w fun e w' => e = .returned (.tuple #[.int .u32 0, .int .u32 0, .slice none 0 0, .int .i64 2]) ∧ Below w.heap.size w w' := by
  have k1 : (n : Int) < 20 := by omega
  go_enter Try.func16, Try.ntmps16
  go_wp2_with fail
  (try simp only [Exit.inBlock, Exit.then])
  refine bodyPost_ret (by simp [results, Try.results16, go_sem]; try rfl) rfl ?_
  exact ⟨rfl, Below.refl _ _⟩
set_option maxRecDepth 100000 in
set_option maxHeartbeats 6400000 in
theorem runwrap_long (b : List UInt8) (ad : Addr) (n c : Nat) (w : World) (hn : b.length = n) (hA : RB w (some ad) b) (hc : n ≤ c) (h20 : 20 ≤ n) (hl : n ≤ 2000000) :
    Calls Try.prog 16 #[.slice (some ad) n c] w fun e w' => RUPost w b e w' := by
  obtain ⟨i0, hi, hz0, hz1, hz2⟩ := info_parts info_u8
  have k1 : ¬ (n : Int) < 20 := by omega
  have HN := Lib.hid hn
  clear hn
  go_enter Try.func16, Try.ntmps16
  go_wp2_with fail
  go_loopw [6, 7, 8] (fun s d i wr => ∃ k : Nat, k ≤ 4 ∧ i = .int .i64 (k : Int) ∧ s = .int .u32 (ac b 12 k : Int) ∧ d = .int .u32 (ac b 16 k : Int) ∧ Below w.heap.size w wr) (fun _ _ i _ => 4 - (intOf i).toNat)
  case atStart => exact ⟨0, by omega, rfl, rfl, rfl, Below.refl _ _⟩
  case round =>
    obtain ⟨k, hk, rfl, rfl, rfl, hb⟩ := hrel
    by_cases hk4 : k < 4
    · have hki : (k : Int) < 4 := by omega
      have qk : IntKind.i64.wrap ((k : Int) + 1) = (k : Int) + 1 := IntWalk.i64_in _ (by omega)
      have q12 : IntKind.i64.wrap (12 + (k : Int)) = 12 + (k : Int) := IntWalk.i64_in _ (by omega)
      have q16 : IntKind.i64.wrap (16 + (k : Int)) = 16 + (k : Int) := IntWalk.i64_in _ (by omega)
      have n12 : (12 + (k : Int)).toNat = 12 + k := by omega
      have n16 : (16 + (k : Int)).toNat = 16 + k := by omega
      have p12 : (0 : Int) ≤ 12 + (k : Int) := by omega
      have p16 : (0 : Int) ≤ 16 + (k : Int) := by omega
      have r12 : 12 + (k : Int) < (n : Int) := by omega
      have r16 : 16 + (k : Int) < (n : Int) := by omega
      have c12 := rb_b1 (hA.below hb) (12 + k) (by rw [HN.out]; omega) (by omega)
      have c16 := rb_b1 (hA.below hb) (16 + k) (by rw [HN.out]; omega) (by omega)
      rw [← add_pos' ad (12 + k) (by omega)] at c12
      rw [← add_pos' ad (16 + k) (by omega)] at c16
      have l12 := b1_lt b (12 + k)
      have l16 := b1_lt b (16 + k)
      have a12 := ac_lt3 b 12 k hk4
      have a16 := ac_lt3 b 16 k hk4
      have H12 : Hid (ac b 12 (k + 1) = ac b 12 k * 256 + b1 b (12 + k)) := rfl
      have H16 : Hid (ac b 16 (k + 1) = ac b 16 k * 256 + b1 b (16 + k)) := rfl
      generalize ac b 12 k = x12 at *
      generalize ac b 16 k = x16 at *
      generalize b1 b (12 + k) = y12 at *
      generalize b1 b (16 + k) = y16 at *
      have u1 : IntKind.u32.wrap ((x12 : Int) * 256) = (x12 : Int) * 256 := IntWalk.u32_in _ (by omega)
      have u2 : IntKind.u32.wrap ((x16 : Int) * 256) = (x16 : Int) * 256 := IntWalk.u32_in _ (by omega)
      have u3 : IntKind.u32.wrap (y12 : Int) = (y12 : Int) := IntWalk.u32_in _ (by omega)
      have u4 : IntKind.u32.wrap (y16 : Int) = (y16 : Int) := IntWalk.u32_in _ (by omega)
      have u5 : IntKind.u32.wrap ((x12 : Int) * 256 + (y12 : Int)) = ((x12 * 256 + y12 : Nat) : Int) := by rw [IntWalk.u32_in _ (by omega)]; omega
      have u6 : IntKind.u32.wrap ((x16 : Int) * 256 + (y16 : Int)) = ((x16 * 256 + y16 : Nat) : Int) := by rw [IntWalk.u32_in _ (by omega)]; omega
      clear l12 l16 a12 a16
      go_wp2_with fail
      go_roundw
      case rel => exact ⟨k + 1, by omega, by go_num, by rw [H12.out]; go_num, by rw [H16.out]; go_num, hb⟩
      case measure => simp [intOf]; omega
    · obtain rfl : k = 4 := by omega
      rw [ac4, ac4]
      clear hk hk4
      have h2d := (hA.below hb).drop_ HN.out 20 (by omega) hc
      rw [Option.map_some, add_pos' _ 20 (by omega)] at h2d
      obtain ⟨R0, hR0, h2d⟩ : ∃ A, (if c = 20 then some ad else some (⟨ad.block, ad.off + 20, none⟩ : Addr)) = A ∧ RB wr A (b.drop 20) := ⟨_, rfl, h2d⟩
      have l20 : Hid ((b.drop 20).length = n - 20) := by show _ = _; rw [List.length_drop, HN.out]
      have n20 : (20 : Int) ≤ (n : Int) := by omega
      have c20 : (20 : Int) ≤ (c : Int) := by omega
      have nc : (n : Int) ≤ (c : Int) := by omega
      have en : (n : Int).toNat = n := by omega
      by_cases hp : IsPk (b.drop 20) (opn (b.drop 20))
      rotate_left
      · have HNO := Lib.hid hp
        have HNW : Hid (¬ IsWb b) := fun h => hp ((isWb_iff b).1 h).1.1
        clear hp
        go_wp2_with fail
        (with_reducible refine (rwrap_no _ _ (b.drop 20) R0 (n - 20) (c - 20) wr l20.out h2d (by omega) (by omega) HNO.out).mono ?_)
        rintro e w8 ⟨rfl, hb8⟩
        have hfin := below_call hb hb8
        go_wp2_with fail
        (try simp only [Exit.inBlock, Exit.then])
        refine bodyPost_ret (by simp [results, Try.results16, go_sem]; try rfl) rfl ?_
        exact ⟨.inr ⟨HNW.out, rfl⟩, hfin⟩
      have HP := Lib.hid hp
      clear hp
      by_cases hbig : 1480 < n - 20
      · have HNW : Hid (¬ IsWb b) := fun h => by have h1 := ((isWb_iff b).1 h).1.2; rw [l20.out] at h1; omega
        go_wp2_with fail
        (with_reducible refine (rwrap_big _ _ (b.drop 20) R0 (n - 20) (c - 20) wr l20.out h2d (by omega) HP.out hbig).mono ?_)
        rintro e w8 ⟨rfl, hb8⟩
        have hfin := below_call hb hb8
        go_wp2_with fail
        (try simp only [Exit.inBlock, Exit.then])
        refine bodyPost_ret (by simp [results, Try.results16, go_sem]; try rfl) rfl ?_
        exact ⟨.inr ⟨HNW.out, rfl⟩, hfin⟩
      have u12 := u32b b 12
      have u16 := u32b b 16
      go_wp2_with fail
      (with_reducible refine (rwrap_good (b4 b 12 : Int) (b4 b 16 : Int) (b.drop 20) R0 (n - 20) (c - 20) wr u12 u16 l20.out h2d (by omega) HP.out (by omega)).mono ?_)
      rintro e w8 ⟨v8, rfl, hO8, hb8⟩
      rw [show 20 + (n - 20) = n by omega] at hO8
      obtain ⟨A8, k8, rfl, hk8, hR8, -⟩ := own_form hO8
      replace hR8 : RB w8 A8 (wrapB (b4 b 12) (b4 b 16) (b.drop 20)) := hR8
      have l8 : Hid ((wrapB (b4 b 12) (b4 b 16) (b.drop 20)).length = n) := by show _ = _; rw [wrapB_len, l20.out]; omega
      have HIFF := Lib.hid (isWb_iff b)
      have HOK : Hid (WrapOk (b.drop 20)) := ⟨HP.out, by rw [l20.out]; omega⟩
      have hfin := below_call hb hb8
      have hA8 := hA.below hfin
      have h2d8 := h2d.below hb8
      generalize wrapB (b4 b 12) (b4 b 16) (b.drop 20) = xq at *
      clear hO8 hb8 h2d u12 u16 hbig
      have s1 := run_str (P := Try.prog) _ _ _ _ Try.underlying24 Try.underlying5 Try.underlying9 _ n k8 _ hR8 l8.out
      have s2 := run_str (P := Try.prog) _ _ _ _ Try.underlying24 Try.underlying5 Try.underlying9 _ n c _ hA8 HN.out
      have hcm := beq_bs xq b
      by_cases hq : xq = b
      · have HW : Hid (IsWb b) := HIFF.out.2 ⟨HOK.out, hq⟩
        rw [decide_eq_true hq] at hcm
        generalize bs xq = y1 at *
        generalize bs b = y2 at *
        clear hq
        have hs8 := hfin.size
        have hbl : Below w8.heap.size w8 (w8.alloc (.cells #[] 5)) := (Below.refl _ w8).alloc (Nat.le_refl _) _
        go_wp2_with (at_builtin; refine wl_app _ rfl (.tmp 55) (.tmp 57) 24 rfl w8.heap.size 5 i0 (.int .u8 0) 1 1 Try.underlying24 hi hz0 hz1 hz2 rfl (by omega) _ _ _ rfl (own_empty w8 w8.heap.size 5 w8.heap.size rfl (Nat.le_refl _)) R0 (n - 20) (c - 20) ((b.drop 20).map bv) rfl (by rw [List.length_map, l20.out]; omega) (RB.below h2d8 hbl) (one_bv _) (by unfold maxLen; omega) (by omega) (by simp) ?_)
        intro v9 w9 hO9 hg9 _
        have hw9 : Below w.heap.size w w9 := (below_al hfin _).grown hg9 (by simp; omega) (fun g hg => by simp [Value.ownBlock] at hg; omega)
        have HO9 : Hid (w9.ownsRow w.heap.size 5 1 v9 (n - 20) ((b.drop 20).map bv)) := by
          show w9.ownsRow _ _ _ _ _ _
          have h := own_weaken hO9 hs8
          simpa [List.map_drop] using h
        clear hO9 hg9 s1 s2
        go_wp2_with fail
        (try simp only [Exit.inBlock, Exit.then])
        refine bodyPost_ret (by simp [results, Try.results16, go_sem]; try rfl) rfl ?_
        refine ⟨.inl ⟨HW.out, _, rfl, ?_⟩, hw9⟩
        rw [HN.out]
        exact HO9.out
      · have HW : Hid (¬ IsWb b) := fun h => hq (HIFF.out.1 h).2
        rw [decide_eq_false hq] at hcm
        generalize bs xq = y1 at *
        generalize bs b = y2 at *
        clear hq
        go_wp2_with fail
        (try simp only [Exit.inBlock, Exit.then])
        refine bodyPost_ret (by simp [results, Try.results16, go_sem]; try rfl) rfl ?_
        exact ⟨.inr ⟨HW.out, rfl⟩, hfin⟩
theorem runwrap_any (b : List UInt8) (A : Option Addr) (n c : Nat) (w : World) (hn : b.length = n) (hA : RB w A b) (hc : n ≤ c) (hl : n ≤ 2000000) :
    Calls Try.prog 16 #[.slice A n c] w fun e w' => RUPost w b e w' := by
  by_cases h : n < 20
  · refine (runwrap_short b A n c w hn h).mono ?_
    rintro e w' ⟨rfl, hb⟩
    refine ⟨.inr ⟨fun hw => ?_, rfl⟩, hb⟩
    obtain ⟨h1, -⟩ := isW_shape hw
    omega
  · obtain ⟨ad, rfl, -⟩ := hA.at_ 0 (by omega)
    exact runwrap_long b ad n c w hn hA hc (by omega) hl
end Go.Proofs.Ytjehllgipfanmaa
