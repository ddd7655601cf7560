/- The walks of tunnel.address, Wrap, Unwrap, Is. -/
import Derived.Test.YtleahlgimppjkaaOuter
import Derived.Test.YtleahlgimppjkaaPFlow
import Derived.Test.YtleahlgimppjkaaClone
namespace Go.Proofs.Ytleahlgimppjkaa
set_option linter.unusedVariables false
set_option linter.unusedSimpArgs false
open Go.RowKit

theorem u32_join (k x y : Nat) (hk : k ≤ 32) (hx : x % 2 ^ k = 0) (hx2 : x < 4294967296) (hy : y < 2 ^ k) (hy2 : y < 4294967296) : bits .or .u32 (x : Int) (y : Int) = ((x + y : Nat) : Int) := by
  rw [u32_or_nat _ _ hx2 hy2, nat_join k x y hx hy]
set_option maxHeartbeats 800000 in
theorem address_any (b : List UInt8) (A : Option Addr) (n c : Nat) (w : World) (hA : RB w A b) (hn : b.length = n) (h4 : 4 ≤ n) (hl : n ≤ 4000000) :
    Calls Try.prog 24 #[.slice A n c] w fun e w' => e = .returned (.int .u32 (b4 b 0 : Int)) ∧ Below w.heap.size w w' := by
  subst hn
  obtain ⟨ad, rfl, c0⟩ := hA.at_ 0 (by omega)
  have c1 := rb_b1 hA 1 (by omega) (by omega)
  have c2 := rb_b1 hA 2 (by omega) (by omega)
  have c3 := rb_b1 hA 3 (by omega) (by omega)
  have e : ad.add 0 = ad := by unfold Addr.add; rw [if_pos rfl]
  replace c0 : w.cell? ad = some (.int .u8 (b1 b 0 : Int)) := by
    rw [e] at c0
    rw [c0]
    unfold b1
    simp [List.getD, List.getElem?_eq_getElem (show 0 < b.length by omega)]
  have HE : Hid (b4 b 0 = (256 * b1 b 0 + b1 b 1) * 65536 + (256 * b1 b 2 + b1 b 3)) := rfl
  have l0 := b1_lt b 0
  have l1 := b1_lt b 1
  have l2 := b1_lt b 2
  have l3 := b1_lt b 3
  generalize b1 b 0 = x0 at *
  generalize b1 b 1 = x1 at *
  generalize b1 b 2 = x2 at *
  generalize b1 b 3 = x3 at *
  have u0 : IntKind.u32.wrap (x0 : Int) = (x0 : Int) := IntWalk.u32_in _ (by omega)
  have u1 : IntKind.u32.wrap (x1 : Int) = (x1 : Int) := IntWalk.u32_in _ (by omega)
  have u2 : IntKind.u32.wrap (x2 : Int) = (x2 : Int) := IntWalk.u32_in _ (by omega)
  have u3 : IntKind.u32.wrap (x3 : Int) = (x3 : Int) := IntWalk.u32_in _ (by omega)
  have v0 : IntKind.u32.wrap ((x0 : Int) * 16777216) = ((x0 * 16777216 : Nat) : Int) := by rw [IntWalk.u32_in _ (by omega)]; omega
  have v1 : IntKind.u32.wrap ((x1 : Int) * 65536) = ((x1 * 65536 : Nat) : Int) := by rw [IntWalk.u32_in _ (by omega)]; omega
  have v2 : IntKind.u32.wrap ((x2 : Int) * 256) = ((x2 * 256 : Nat) : Int) := by rw [IntWalk.u32_in _ (by omega)]; omega
  obtain ⟨y0, hy0⟩ : ∃ y, y = x0 * 16777216 := ⟨_, rfl⟩
  obtain ⟨y1, hy1⟩ : ∃ y, y = x1 * 65536 := ⟨_, rfl⟩
  obtain ⟨y2, hy2⟩ : ∃ y, y = x2 * 256 := ⟨_, rfl⟩
  rw [← hy0] at v0
  rw [← hy1] at v1
  rw [← hy2] at v2
  obtain ⟨z1, hz1⟩ : ∃ z, z = y0 + y1 := ⟨_, rfl⟩
  obtain ⟨z2, hz2⟩ : ∃ z, z = z1 + y2 := ⟨_, rfl⟩
  have o1 := u32_join 24 y0 y1 (by omega) (by omega) (by omega) (by omega) (by omega)
  rw [← hz1] at o1
  have o2 := u32_join 16 z1 y2 (by omega) (by omega) (by omega) (by omega) (by omega)
  rw [← hz2] at o2
  have o3 := u32_join 8 z2 x3 (by omega) (by omega) (by omega) (by omega) (by omega)
  have HZ : Hid (z2 + x3 = b4 b 0) := by show z2 + x3 = b4 b 0; rw [HE.out]; omega
  rw [HZ.out] at o3
  have i0 : (0 : Int) < (b.length : Int) := by omega
  have i1 : (1 : Int) < (b.length : Int) := by omega
  have i2 : (2 : Int) < (b.length : Int) := by omega
  have i3 : (3 : Int) < (b.length : Int) := by omega
  have i00 : 0 < b.length := by omega
  clear hy0 hy1 hy2 hz1 hz2 l0 l1 l2 l3 hA hl e
  go_enter Try.func24, Try.ntmps24
  go_wp2_with fail
  go_quiet (fail)
  go_wp2_with fail
  go_ret
  exact ⟨rfl, ⟨rfl, rfl, rfl, Nat.le_refl _, fun _ _ => rfl⟩⟩
theorem b4_drop0 (b : List UInt8) (k : Nat) : b4 (b.drop k) 0 = b4 b k := by rw [b4_drop]; rfl

set_option maxRecDepth 100000 in
set_option maxHeartbeats 1600000 in
theorem wrap_no (src dst : Int) (b : List UInt8) (A : Option Addr) (n c : Nat) (w : World) (hn : b.length = n) (hA : RB w A b) (hc : n ≤ c) (h : ∀ p, ¬ IsPk b p) :
    Calls Try.prog 7 #[.int .u32 src, .int .u32 dst, .slice A n c] w fun e w' => e = .returned (.tuple #[.slice none 0 0, er 2]) ∧ Below w.heap.size w w' := by
  go_enter Try.func7, Try.ntmps7
  go_wp2_with fail
  (with_reducible refine (flow_bad b A n c w hn hA hc h).mono ?_)
  rintro e w1 ⟨rfl, hb1⟩
  clear h
  obtain ⟨f, hf⟩ : ∃ f, f = fl0 := ⟨_, rfl⟩
  rw [← hf]
  clear hf
  obtain ⟨fs, hfs⟩ : ∃ fs : Array Value, #[.int .i64 f.proto, .int .u32 f.src, .int .i64 f.sp, .int .u32 f.dst, .int .i64 f.dp] = fs := ⟨_, rfl⟩
  have hsz : fs.size = 5 := by rw [← hfs]; rfl
  have hst := store5n (P := Try.prog) w1 fs (by rw [← hfs]; rfl) (by rw [← hfs]; exact fl_one f)
  have hN : Below w1.heap.size w1 ((w1.alloc (.cells #[.int .i64 0, .int .u32 0, .int .i64 0, .int .u32 0, .int .i64 0] 25)).setRow w1.heap.size fs) := below_row (below_al (Below.refl _ w1) _) (Nat.le_refl _)
  have hC2 := below_call hb1 hN
  have hz8 := hb1.size
  clear hN hb1
  generalize hg8 : w1.heap.size = g8 at *
  go_upto_region 2 with (fail)
  generalize (w1.alloc (.cells #[.int .i64 0, .int .u32 0, .int .i64 0, .int .u32 0, .int .i64 0] 25)).setRow g8 fs = w2 at *
  clear hst hfs hsz
  go_wp2_with fail
  go_ret2
  exact ⟨rfl, hC2⟩
set_option maxRecDepth 100000 in
set_option maxHeartbeats 1600000 in
theorem wrap_big (src dst : Int) (b : List UInt8) (p : Pk) (A : Option Addr) (n c : Nat) (w : World) (hn : b.length = n) (hA : RB w A b) (hc : n ≤ c) (h : IsPk b p) (hl : 1480 < n) :
    Calls Try.prog 7 #[.int .u32 src, .int .u32 dst, .slice A n c] w fun e w' => e = .returned (.tuple #[.slice none 0 0, er 4]) ∧ Below w.heap.size w w' := by
  have k1 : (1480 : Int) < (n : Int) := by omega
  go_enter Try.func7, Try.ntmps7
  go_wp2_with fail
  (with_reducible refine (flow_good b p A n c w hn hA hc h).mono ?_)
  rintro e w1 ⟨rfl, hb1⟩
  clear h
  generalize p.fl = f at ⊢
  obtain ⟨fs, hfs⟩ : ∃ fs : Array Value, #[.int .i64 f.proto, .int .u32 f.src, .int .i64 f.sp, .int .u32 f.dst, .int .i64 f.dp] = fs := ⟨_, rfl⟩
  have hsz : fs.size = 5 := by rw [← hfs]; rfl
  have hst := store5n (P := Try.prog) w1 fs (by rw [← hfs]; rfl) (by rw [← hfs]; exact fl_one f)
  have hN : Below w1.heap.size w1 ((w1.alloc (.cells #[.int .i64 0, .int .u32 0, .int .i64 0, .int .u32 0, .int .i64 0] 25)).setRow w1.heap.size fs) := below_row (below_al (Below.refl _ w1) _) (Nat.le_refl _)
  have hC2 := below_call hb1 hN
  have hz8 := hb1.size
  clear hN hb1
  generalize hg8 : w1.heap.size = g8 at *
  go_upto_region 2 with (fail)
  generalize (w1.alloc (.cells #[.int .i64 0, .int .u32 0, .int .i64 0, .int .u32 0, .int .i64 0] 25)).setRow g8 fs = w2 at *
  clear hst hfs hsz
  go_wp2_with fail
  go_ret2
  exact ⟨rfl, hC2⟩
set_option maxRecDepth 100000 in
set_option maxHeartbeats 1600000 in
theorem wrap_good (src dst : Int) (b : List UInt8) (p : Pk) (A : Option Addr) (n c : Nat) (w : World) (hs : U32 src) (hd : U32 dst) (hn : b.length = n) (hA : RB w A b) (hc : n ≤ c) (h : IsPk b p) (hl : n ≤ 1480) :
    Calls Try.prog 7 #[.int .u32 src, .int .u32 dst, .slice A n c] w fun e w' => ∃ v, e = .returned (.tuple #[v, .nilIface]) ∧ w'.ownsRow w.heap.size 5 1 v (20 + n) ((wrapB src dst b).map bv) ∧ Below w.heap.size w w' := by
  obtain ⟨i0, hi, hz0, hz1, hz2⟩ := info_parts info_u8
  have k1 : ¬ (1480 : Int) < (n : Int) := by omega
  obtain ⟨src, rfl⟩ := Int.eq_ofNat_of_zero_le hs.1
  obtain ⟨dst, rfl⟩ := Int.eq_ofNat_of_zero_le hd.1
  have hs2 : src ≤ 4294967295 := by have := hs.2; omega
  have hd2 : dst ≤ 4294967295 := by have := hd.2; omega
  clear hs hd
  go_enter Try.func7, Try.ntmps7
  go_wp2_with fail
  (with_reducible refine (flow_good b p A n c w hn hA hc h).mono ?_)
  rintro e w1 ⟨rfl, hb1⟩
  clear h
  generalize p.fl = f at ⊢
  obtain ⟨fs, hfs⟩ : ∃ fs : Array Value, #[.int .i64 f.proto, .int .u32 f.src, .int .i64 f.sp, .int .u32 f.dst, .int .i64 f.dp] = fs := ⟨_, rfl⟩
  have hsz : fs.size = 5 := by rw [← hfs]; rfl
  have hst := store5n (P := Try.prog) w1 fs (by rw [← hfs]; rfl) (by rw [← hfs]; exact fl_one f)
  have hN : Below w1.heap.size w1 ((w1.alloc (.cells #[.int .i64 0, .int .u32 0, .int .i64 0, .int .u32 0, .int .i64 0] 25)).setRow w1.heap.size fs) := below_row (below_al (Below.refl _ w1) _) (Nat.le_refl _)
  have hC2 := below_call hb1 hN
  have hz8 := hb1.size
  clear hN hb1
  generalize hg8 : w1.heap.size = g8 at *
  go_upto_region 2 with (fail)
  generalize (w1.alloc (.cells #[.int .i64 0, .int .u32 0, .int .i64 0, .int .u32 0, .int .i64 0] 25)).setRow g8 fs = w2 at *
  clear hst hfs hsz
  have hA2 := hA.below hC2
  have hs3 := hC2.size
  go_wp2_with fail
  (with_reducible refine (outer_any src dst n w2 hs2 hd2 hl).mono ?_)
  rintro e w3 ⟨v3, rfl, hO3, hb3⟩
  have hA3 := hA2.below hb3
  have hw3 := below_call hC2 hb3
  have hs4 := hb3.size
  have HO3 := Lib.hid hO3
  clear hO3 hA2
  go_wp2_with (at_builtin; refine wl_app _ rfl (.tmp 26) (.tmp 27) 26 rfl w2.heap.size 5 i0 (.int .u8 0) 1 1 Try.underlying26 hi hz0 hz1 hz2 rfl (by omega) v3 20 ((frontS (oq src dst) n).map bv) rfl HO3.out A n c (b.map bv) rfl (by rw [List.length_map, hn]; omega) hA3 (one_bv b) (by unfold maxLen; omega) (by omega) (by omega) ?_)
  intro v4 w4 hO4 hg4 _
  have hw4 : Below w.heap.size w w4 := hw3.grown hg4 (by omega) (fun k e => by have := (HO3.out.lt k e).1; omega)
  have HO4 : Hid (w4.ownsRow w.heap.size 5 1 v4 (20 + n) ((wrapB src dst b).map bv)) := by
    show w4.ownsRow _ _ _ _ _ _
    unfold wrapB
    rw [List.map_append, hn]
    exact own_weaken hO4 (by omega)
  clear hO4 hg4 HO3
  go_wp2_with fail
  go_ret2
  exact ⟨_, rfl, HO4.out, hw4⟩
end Go.Proofs.Ytleahlgimppjkaa
