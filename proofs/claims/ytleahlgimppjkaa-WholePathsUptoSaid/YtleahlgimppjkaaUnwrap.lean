/- The walks of tunnel.Unwrap, Is. -/
import Derived.Test.YtleahlgimppjkaaTun
import Derived.Deep.RegionHeld3
namespace Go.Proofs.Ytleahlgimppjkaa
set_option linter.unusedVariables false
set_option linter.unusedSimpArgs false
open Go.RowKit

theorem clone_n (xs : List UInt8) (A : Option Addr) (n c : Nat) (w : World) (hn : xs.length = n) (hA : RB w A xs) (hc : n ≤ c) (hl : n ≤ 4000000) :
    Calls Try.prog 25 #[.slice A n c] w fun e w' => ∃ R k, e = .returned (.slice R n k) ∧ Hid (w'.ownsRow w.heap.size 5 1 (.slice R n k) n (xs.map bv)) ∧ n ≤ k ∧ Below w.heap.size w w' := by
  subst hn
  refine (clone_any xs A c w hA hc hl).mono ?_
  rintro e w' ⟨v, rfl, hO, hb⟩
  obtain ⟨R, k, rfl, hk, -, -⟩ := own_form hO
  exact ⟨R, k, rfl, hO, hk, hb⟩
theorem equal_n (xs ys : List UInt8) (A B : Option Addr) (n m c d : Nat) (w : World) (hn : xs.length = n) (hm : ys.length = m) (hA : RB w A xs) (hB : RB w B ys) :
    Calls Try.prog 26 #[.slice A n c, .slice B m d] w fun e w' => e = .returned (.bool (decide (xs = ys))) ∧ w' = w := by
  subst hn hm
  exact equal_any xs ys A B c d w hA hB
theorem isWb_iff (b : List UInt8) : IsWb b ↔ WrapOk (b.drop 20) ∧ wrapB (b4 b 12) (b4 b 16) (b.drop 20) = b := by
  have h1 : ∀ i, b1 b i ≤ 255 := fun i => by have := b1_lt b i; omega
  have h2 : ∀ i, b2 b i ≤ 65535 := fun i => by have := h1 i; have := h1 (i + 1); unfold b2; omega
  have h4 : ∀ i, U32 (b4 b i : Int) := fun i => by have := h2 i; have := h2 (i + 2); unfold b4 U32; omega
  exact ⟨fun h => ⟨h.1, h.2.2.2⟩, fun h => ⟨h.1, h4 12, h4 16, h.2⟩⟩
theorem u32b (b : List UInt8) (i : Nat) : U32 (b4 b i : Int) := by
  have h1 := b2_lt b i
  have h2 := b2_lt b (i + 2)
  unfold b4 U32
  omega
/-- What Unwrap answers. -/
def UPost (w : World) (b : List UInt8) (e : Ending) (w' : World) : Prop :=
  ((IsWb b ∧ ∃ v, e = .returned (.tuple #[.int .u32 (b4 b 12 : Int), .int .u32 (b4 b 16 : Int), v, .nilIface]) ∧ w'.ownsRow w.heap.size 5 1 v (b.length - 20) ((b.drop 20).map bv)) ∨ (¬ IsWb b ∧ e = .returned (.tuple #[.int .u32 0, .int .u32 0, .slice none 0 0, er 2]))) ∧ Below w.heap.size w w'

set_option maxRecDepth 100000 in
set_option maxHeartbeats 1600000 in
theorem unwrap_short (b : List UInt8) (A : Option Addr) (n c : Nat) (w : World) (hn : b.length = n) (h : n < 20) :
    Calls Try.prog 9 #[.slice A n c] w fun e w' => e = .returned (.tuple #[.int .u32 0, .int .u32 0, .slice none 0 0, er 2]) ∧ Below w.heap.size w w' := by
  have k1 : (n : Int) < 20 := by omega
  go_enter Try.func9, Try.ntmps9
  go_wp2_with fail
  (try simp only [Exit.inBlock, Exit.then])
  refine bodyPost_ret (by simp [results, Try.results9, go_sem]; try rfl) rfl ?_
  exact ⟨rfl, Below.refl _ _⟩
set_option maxRecDepth 100000 in
set_option maxHeartbeats 3200000 in
theorem unwrap_long (b : List UInt8) (ad : Addr) (n c : Nat) (w : World) (hn : b.length = n) (hA : RB w (some ad) b) (hc : n ≤ c) (h20 : 20 ≤ n) (hl : n ≤ 2000000) :
    Calls Try.prog 9 #[.slice (some ad) n c] w fun e w' => UPost w b e w' := by
  have k1 : ¬ (n : Int) < 20 := by omega
  have HN := Lib.hid hn
  have h12 := hA.drop_ hn 12 (by omega) hc
  rw [if_neg (by omega), Option.map_some, add_pos' _ 12 (by omega)] at h12
  have h16 := hA.drop_ hn 16 (by omega) hc
  rw [if_neg (by omega), Option.map_some, add_pos' _ 16 (by omega)] at h16
  have h2d := hA.drop_ hn 20 (by omega) hc
  rw [Option.map_some, add_pos' _ 20 (by omega)] at h2d
  obtain ⟨R0, hR0, h2d⟩ : ∃ A, (if c = 20 then some ad else some (⟨ad.block, ad.off + 20, none⟩ : Addr)) = A ∧ RB w A (b.drop 20) := ⟨_, rfl, h2d⟩
  have l12 : Hid ((b.drop 12).length = n - 12) := by show _ = _; rw [List.length_drop, hn]
  have l16 : Hid ((b.drop 16).length = n - 16) := by show _ = _; rw [List.length_drop, hn]
  have l20 : Hid ((b.drop 20).length = n - 20) := by show _ = _; rw [List.length_drop, hn]
  have n12 : (12 : Int) ≤ (n : Int) := by omega
  have n16 : (16 : Int) ≤ (n : Int) := by omega
  have n20 : (20 : Int) ≤ (n : Int) := by omega
  have c12 : (12 : Int) ≤ (c : Int) := by omega
  have c16 : (16 : Int) ≤ (c : Int) := by omega
  have c20 : (20 : Int) ≤ (c : Int) := by omega
  have d12 : ¬ c = 12 := by omega
  have d16 : ¬ c = 16 := by omega
  have nc : (n : Int) ≤ (c : Int) := by omega
  have en : (n : Int).toNat = n := by omega
  clear hn
  go_enter Try.func9, Try.ntmps9
  go_upto_region 3 with (fail)
  have hcur : Below w.heap.size w w.drew := Below.drew (Below.refl _ w)
  go_region_held3 (fun _ => True)
    (trivial)
    (first
      | (go_at_call 24; (with_reducible refine (address_any (b.drop 12) _ (n - 12) (c - 12) _ (h12.below hcur) l12.out (by omega) (by omega)).mono ?_); rintro e w6 ⟨rfl, hb6⟩; rw [b4_drop0]; replace hcur := below_call hcur hb6)
      | (go_at_call 24; (with_reducible refine (address_any (b.drop 16) _ (n - 16) (c - 16) _ (h16.below hcur) l16.out (by omega) (by omega)).mono ?_); rintro e w6 ⟨rfl, hb6⟩; rw [b4_drop0]; replace hcur := below_call hcur hb6)
      | (go_at_call 25; (with_reducible refine (clone_n (b.drop 20) _ (n - 20) (c - 20) _ l20.out (h2d.below hcur) (by omega) (by omega)).mono ?_); rintro e w7 ⟨R, k, rfl, HO, hk, hb7⟩; have hcu0 := hcur; have hsz := hcur.size; replace hcur := below_call hcur hb7))
  all_goals
    go_upto_region 4 with (fail)
    have hA7 := hA.below hcur
    have HOw : Hid (w7.ownsRow w.heap.size 5 1 (.slice R (n - 20) k) (n - 20) ((b.drop 20).map bv)) := own_weaken HO.out hsz
    have hR7 : RB w7 R (b.drop 20) := RC.of_own HOw.out
    clear HO hb7 hcu0 h12 h16 h2d hsz
    by_cases hp : IsPk (b.drop 20) (opn (b.drop 20))
    rotate_left
    · have HNO := Lib.hid (fun q (hq : IsPk (b.drop 20) q) => hp (isPk_any hq))
      have HNW : Hid (¬ IsWb b) := fun h => hp ((isWb_iff b).1 h).1.1
      clear hp
      go_wp2_with fail
      (with_reducible refine (wrap_no _ _ (b.drop 20) R (n - 20) k w7 l20.out hR7 hk HNO.out).mono ?_)
      rintro e w8 ⟨rfl, hb8⟩
      have hfin := below_call hcur hb8
      go_wp2_with fail
      (try simp only [Exit.inBlock, Exit.then])
      refine bodyPost_ret (by simp [results, Try.results9, go_sem]; try rfl) rfl ?_
      exact ⟨.inr ⟨HNW.out, rfl⟩, hfin⟩
    have HP := Lib.hid hp
    clear hp
    by_cases hbig : 1480 < n - 20
    · have HNW : Hid (¬ IsWb b) := fun h => by have h1 := ((isWb_iff b).1 h).1.2; rw [l20.out] at h1; omega
      go_wp2_with fail
      (with_reducible refine (wrap_big _ _ (b.drop 20) _ R (n - 20) k w7 l20.out hR7 hk HP.out hbig).mono ?_)
      rintro e w8 ⟨rfl, hb8⟩
      have hfin := below_call hcur hb8
      go_wp2_with fail
      (try simp only [Exit.inBlock, Exit.then])
      refine bodyPost_ret (by simp [results, Try.results9, go_sem]; try rfl) rfl ?_
      exact ⟨.inr ⟨HNW.out, rfl⟩, hfin⟩
    have u12 := u32b b 12
    have u16 := u32b b 16
    go_wp2_with fail
    (with_reducible refine (wrap_good (b4 b 12 : Int) (b4 b 16 : Int) (b.drop 20) _ R (n - 20) k w7 u12 u16 l20.out hR7 hk HP.out (by omega)).mono ?_)
    rintro e w8 ⟨v8, rfl, hO8, hb8⟩
    rw [show 20 + (n - 20) = n by omega] at hO8
    obtain ⟨A8, k8, rfl, hk8, hR8, -⟩ := own_form hO8
    replace hR8 : RB w8 A8 (wrapB (b4 b 12) (b4 b 16) (b.drop 20)) := hR8
    have l8 : Hid ((wrapB (b4 b 12) (b4 b 16) (b.drop 20)).length = n) := by show _ = _; rw [wrapB_len, l20.out]; omega
    have HIFF := Lib.hid (isWb_iff b)
    have HOK : Hid (WrapOk (b.drop 20)) := ⟨HP.out, by rw [l20.out]; omega⟩
    have hA8 := hA7.below hb8
    have HO8 := Lib.hid (own_below HOw.out hb8)
    have hfin := below_call hcur hb8
    generalize wrapB (b4 b 12) (b4 b 16) (b.drop 20) = xq at *
    clear hO8 hb8 hA7 HOw hR7 hcur u12 u16 hbig
    go_wp2_with fail
    (with_reducible refine (equal_n xq b A8 (some ad) n n k8 c w8 l8.out HN.out hR8 hA8).mono ?_)
    rintro e w9 ⟨rfl, rfl⟩
    by_cases hq : xq = b
    · rw [decide_eq_true hq]
      have HW : Hid (IsWb b) := HIFF.out.2 ⟨HOK.out, hq⟩
      clear hq
      go_wp2_with fail
      (try simp only [Exit.inBlock, Exit.then])
      refine bodyPost_ret (by simp [results, Try.results9, go_sem]; try rfl) rfl ?_
      refine ⟨.inl ⟨HW.out, _, rfl, ?_⟩, hfin⟩
      rw [HN.out]
      exact HO8.out
    · rw [decide_eq_false hq]
      have HW : Hid (¬ IsWb b) := fun h => hq (HIFF.out.1 h).2
      clear hq
      go_wp2_with fail
      (try simp only [Exit.inBlock, Exit.then])
      refine bodyPost_ret (by simp [results, Try.results9, go_sem]; try rfl) rfl ?_
      exact ⟨.inr ⟨HW.out, rfl⟩, hfin⟩
theorem unwrap_any (b : List UInt8) (A : Option Addr) (n c : Nat) (w : World) (hn : b.length = n) (hA : RB w A b) (hc : n ≤ c) (hl : n ≤ 2000000) :
    Calls Try.prog 9 #[.slice A n c] w fun e w' => UPost w b e w' := by
  by_cases h : n < 20
  · refine (unwrap_short b A n c w hn h).mono ?_
    rintro e w' ⟨rfl, hb⟩
    refine ⟨.inr ⟨fun hw => ?_, rfl⟩, hb⟩
    obtain ⟨h1, -⟩ := isW_shape hw
    omega
  · obtain ⟨ad, rfl, -⟩ := hA.at_ 0 (by omega)
    exact unwrap_long b ad n c w hn hA hc (by omega) hl
end Go.Proofs.Ytleahlgimppjkaa
