/- The walk of tunnel.outer. -/
import Derived.Test.YtleahlgimppjkaaTunPure
import Derived.Test.YtleahlgimppjkaaSegmentU
namespace Go.Proofs.Ytleahlgimppjkaa
set_option linter.unusedVariables false
set_option linter.unusedSimpArgs false
open Go.RowKit

theorem rp1_o (W : World) (t : TypeId) (B : Option Addr) (n c : Nat) (xs : List UInt8) (hn : xs.length = n) (hc : n ≤ c) (h : RB W B xs) {g : Nat} (hg : g = W.heap.size) :
    RP (W.alloc (.cells #[.slice B n c] t)) (some ⟨g, 0, none⟩) [xs] := by
  subst hn
  exact rp1 W t B c xs hc h hg
theorem own_lit12 (W : World) (base : Nat) (e : TypeId) (g : Nat) (a b c d x y z u p q r s : Value) (hg : g = W.heap.size) (hb : base ≤ W.heap.size) : (W.alloc (.cells #[a, b, c, d, x, y, z, u, p, q, r, s] e)).ownsRow base e 1 (.slice (some ⟨g, 0, none⟩) 12 12) 12 [a, b, c, d, x, y, z, u, p, q, r, s] := by
  subst hg
  exact ⟨rfl, .inr ⟨W.heap.size, 12, #[a, b, c, d, x, y, z, u, p, q, r, s], rfl, hb, heap_alloc_new W _, Nat.le_refl _, (by unfold maxLen; omega), rfl, rfl⟩⟩
/-- The first twelve bytes of an outer header, and the addresses behind them. -/
def oh (x y : UInt8) : List UInt8 := [69, 0, x, y, 0, 0, 64, 0, 64, 4, 0, 0]
def ol (x y : UInt8) (src dst : Nat) : Nat → List UInt8
  | 0 => oh x y
  | 1 => oh x y ++ be 4 src
  | _ => oh x y ++ be 4 src ++ be 4 dst
theorem front_set' (p : Pk) (n c : Nat) : ((front p n 0).set 10 (UInt8.ofNat (c / 256))).set 11 (UInt8.ofNat c) = front p n c := by
  rw [front_cons, front_cons]; rfl

set_option maxRecDepth 100000 in
set_option maxHeartbeats 3200000 in
theorem outer_any (src dst n : Nat) (w : World) (hs : src ≤ 4294967295) (hd : dst ≤ 4294967295) (hn : n ≤ 1480) :
    Calls Try.prog 23 #[.int .u32 (src : Int), .int .u32 (dst : Int), .int .i64 (n : Int)] w fun e w' => ∃ v, e = .returned v ∧ w'.ownsRow w.heap.size 5 1 v 20 ((frontS (oq src dst) n).map bv) ∧ Below w.heap.size w w' := by
  obtain ⟨i0, hi, hz0, hz1, hz2⟩ := info_parts info_u8
  have q20 : IntKind.i64.wrap (20 + (n : Int)) = 20 + (n : Int) := IntWalk.i64_in _ (by omega)
  obtain ⟨x, hx, HX⟩ : ∃ x : UInt8, (20 + (n : Int)) / 256 = (x.toNat : Int) ∧ Hid (x = UInt8.ofNat ((20 + n) / 256)) := ⟨UInt8.ofNat ((20 + n) / 256), by rw [UInt8.toNat_ofNat']; omega, rfl⟩
  obtain ⟨y, hy, HY⟩ : ∃ y : UInt8, (20 + (n : Int)) % 256 = (y.toNat : Int) ∧ Hid (y = UInt8.ofNat (20 + n)) := ⟨UInt8.ofNat (20 + n), by rw [UInt8.toNat_ofNat']; omega, rfl⟩
  have hxl : (x.toNat : Int) % 256 = (x.toNat : Int) := by have := x.toNat_lt; omega
  have ix0 : ∀ W : World, (Instr.index 82 (.agg #[.int .u32 (src : Int), .int .u32 (dst : Int)]) (.int .i64 0)).run Try.prog W = .ok (.int .u32 (src : Int)) W := fun _ => by kernel_rfl
  have ix1 : ∀ W : World, (Instr.index 82 (.agg #[.int .u32 (src : Int), .int .u32 (dst : Int)]) (.int .i64 1)).run Try.prog W = .ok (.int .u32 (dst : Int)) W := fun _ => by kernel_rfl
  go_enter Try.func23, Try.ntmps23
  go_upto_region 2 with (fail)
  have hO0 : (w.alloc (.cells #[.int .u8 69, .int .u8 0, .int .u8 (x.toNat : Int), .int .u8 (y.toNat : Int), .int .u8 0, .int .u8 0, .int .u8 64, .int .u8 0, .int .u8 64, .int .u8 4, .int .u8 0, .int .u8 0] 5)).ownsRow w.heap.size 5 1 (.slice (some ⟨w.heap.size, 0, none⟩) 12 12) 12 ((oh x y).map bv) := own_lit12 w w.heap.size 5 w.heap.size _ _ _ _ _ _ _ _ _ _ _ _ rfl (Nat.le_refl _)
  have hb0 : Below w.heap.size w (w.alloc (.cells #[.int .u8 69, .int .u8 0, .int .u8 (x.toNat : Int), .int .u8 (y.toNat : Int), .int .u8 0, .int .u8 0, .int .u8 64, .int .u8 0, .int .u8 64, .int .u8 4, .int .u8 0, .int .u8 0] 5)) := (Below.refl _ w).alloc (Nat.le_refl _) _
  generalize w.alloc (.cells #[.int .u8 69, .int .u8 0, .int .u8 (x.toNat : Int), .int .u8 (y.toNat : Int), .int .u8 0, .int .u8 0, .int .u8 64, .int .u8 0, .int .u8 64, .int .u8 4, .int .u8 0, .int .u8 0] 5) = wa at *
  clear hx hy hxl q20
  go_wp2_with fail
  go_loopw [7, 22] (fun v i wr => ∃ k : Nat, k ≤ 2 ∧ i = .int .i64 (k : Int) ∧ Hid (wr.ownsRow w.heap.size 5 1 v (12 + 4 * k) ((ol x y src dst k).map bv)) ∧ Below w.heap.size w wr) (fun _ i _ => 2 - (intOf i).toNat)
  case atStart => exact ⟨0, by omega, rfl, hO0, hb0⟩
  case round =>
    obtain ⟨k, hk, hik, HO, hb⟩ := hrel
    clear hO0 hb0
    have hsr := hb.size
    obtain rfl | rfl | rfl : k = 0 ∨ k = 1 ∨ k = 2 := by omega
    · obtain ⟨v0, hv0⟩ : ∃ v, v = u7 := ⟨_, rfl⟩
      subst hv0
      rw [show ((0 : Nat) : Int) = 0 from rfl] at hik
      subst hik
      obtain ⟨a, ha, HA⟩ : ∃ x : UInt8, (src : Int) / 16777216 = (x.toNat : Int) ∧ Hid (x = UInt8.ofNat (src / 16777216)) := ⟨UInt8.ofNat (src / 16777216), by rw [UInt8.toNat_ofNat']; omega, rfl⟩
      obtain ⟨b, hbb, HB⟩ : ∃ x : UInt8, (src : Int) / 65536 % 256 = (x.toNat : Int) ∧ Hid (x = UInt8.ofNat (src / 65536)) := ⟨UInt8.ofNat (src / 65536), by rw [UInt8.toNat_ofNat']; omega, rfl⟩
      obtain ⟨c, he, HC⟩ : ∃ x : UInt8, (src : Int) / 256 % 256 = (x.toNat : Int) ∧ Hid (x = UInt8.ofNat (src / 256)) := ⟨UInt8.ofNat (src / 256), by rw [UInt8.toNat_ofNat']; omega, rfl⟩
      obtain ⟨d, hf, HD⟩ : ∃ y : UInt8, (src : Int) % 256 = (y.toNat : Int) ∧ Hid (y = UInt8.ofNat src) := ⟨UInt8.ofNat src, by rw [UInt8.toNat_ofNat']; omega, rfl⟩
      have hal : (a.toNat : Int) % 256 = (a.toNat : Int) := by have := a.toNat_lt; omega
      go_wp2_with (at_builtin; refine wl_app _ rfl (.tmp 25) (.tmp 37) 26 rfl w.heap.size 5 i0 (.int .u8 0) 1 1 Try.underlying26 hi hz0 hz1 hz2 rfl (by omega) v0 12 ((ol x y src dst 0).map bv) rfl (HO.out.alloc _) (some ⟨wr.heap.size, 0, none⟩) 4 4 [.int .u8 (a.toNat : Int), .int .u8 (b.toNat : Int), .int .u8 (c.toNat : Int), .int .u8 (d.toNat : Int)] rfl rfl (rc_new wr _ _) (by simp [Value.oneCell']) (by unfold maxLen; omega) (by omega) (by simp; omega) ?_)
      intro v2 w2 hO2 hg2 _
      have hb2 : Below w.heap.size w w2 := (hb.alloc hsr _).grown hg2 (by simp; omega) (fun k e => (HO.out.lt k e).1)
      have HO2 : Hid (w2.ownsRow w.heap.size 5 1 v2 (12 + 4 * (0 + 1)) ((ol x y src dst (0 + 1)).map bv)) := by
        show w2.ownsRow _ _ _ _ _ _
        have e : ol x y src dst (0 + 1) = ol x y src dst 0 ++ [a, b, c, d] := by
          rw [HA.out, HB.out, HC.out, HD.out, ← be4]
          rfl
        rw [e, List.map_append]
        exact hO2
      clear hO2 hg2
      go_wp2_with fail
      go_roundw
      case rel => exact ⟨0 + 1, by omega, by go_num, HO2, hb2⟩
      case measure => simp [intOf]
    · obtain ⟨v0, hv0⟩ : ∃ v, v = u7 := ⟨_, rfl⟩
      subst hv0
      rw [show ((1 : Nat) : Int) = 1 from rfl] at hik
      subst hik
      obtain ⟨a, ha, HA⟩ : ∃ x : UInt8, (dst : Int) / 16777216 = (x.toNat : Int) ∧ Hid (x = UInt8.ofNat (dst / 16777216)) := ⟨UInt8.ofNat (dst / 16777216), by rw [UInt8.toNat_ofNat']; omega, rfl⟩
      obtain ⟨b, hbb, HB⟩ : ∃ x : UInt8, (dst : Int) / 65536 % 256 = (x.toNat : Int) ∧ Hid (x = UInt8.ofNat (dst / 65536)) := ⟨UInt8.ofNat (dst / 65536), by rw [UInt8.toNat_ofNat']; omega, rfl⟩
      obtain ⟨c, he, HC⟩ : ∃ x : UInt8, (dst : Int) / 256 % 256 = (x.toNat : Int) ∧ Hid (x = UInt8.ofNat (dst / 256)) := ⟨UInt8.ofNat (dst / 256), by rw [UInt8.toNat_ofNat']; omega, rfl⟩
      obtain ⟨d, hf, HD⟩ : ∃ y : UInt8, (dst : Int) % 256 = (y.toNat : Int) ∧ Hid (y = UInt8.ofNat dst) := ⟨UInt8.ofNat dst, by rw [UInt8.toNat_ofNat']; omega, rfl⟩
      have hal : (a.toNat : Int) % 256 = (a.toNat : Int) := by have := a.toNat_lt; omega
      go_wp2_with (at_builtin; refine wl_app _ rfl (.tmp 25) (.tmp 37) 26 rfl w.heap.size 5 i0 (.int .u8 0) 1 1 Try.underlying26 hi hz0 hz1 hz2 rfl (by omega) v0 16 ((ol x y src dst 1).map bv) rfl (HO.out.alloc _) (some ⟨wr.heap.size, 0, none⟩) 4 4 [.int .u8 (a.toNat : Int), .int .u8 (b.toNat : Int), .int .u8 (c.toNat : Int), .int .u8 (d.toNat : Int)] rfl rfl (rc_new wr _ _) (by simp [Value.oneCell']) (by unfold maxLen; omega) (by omega) (by simp; omega) ?_)
      intro v2 w2 hO2 hg2 _
      have hb2 : Below w.heap.size w w2 := (hb.alloc hsr _).grown hg2 (by simp; omega) (fun k e => (HO.out.lt k e).1)
      have HO2 : Hid (w2.ownsRow w.heap.size 5 1 v2 (12 + 4 * (1 + 1)) ((ol x y src dst (1 + 1)).map bv)) := by
        show w2.ownsRow _ _ _ _ _ _
        have e : ol x y src dst (1 + 1) = ol x y src dst 1 ++ [a, b, c, d] := by
          rw [HA.out, HB.out, HC.out, HD.out, ← be4]
          rfl
        rw [e, List.map_append]
        exact hO2
      clear hO2 hg2
      go_wp2_with fail
      go_roundw
      case rel => exact ⟨1 + 1, by omega, by go_num, HO2, hb2⟩
      case measure => simp [intOf]
    · obtain ⟨v0, hv0⟩ : ∃ v, v = u7 := ⟨_, rfl⟩
      subst hv0
      rw [show ((2 : Nat) : Int) = 2 from rfl] at hik
      subst hik
      have HF : Hid (ol x y src dst 2 = front (oq src dst) n 0) := by
        show ol x y src dst 2 = _
        unfold ol oh front oq
        rw [HX.out, HY.out]
        simp only [be2]
        rfl
      have hO := HO.out
      rw [HF.out] at hO
      have HF0 : Hid (front (oq src dst) n 0 = front (oq src dst) n 0) := rfl
      obtain ⟨f, hf⟩ : ∃ f, front (oq src dst) n 0 = f := ⟨_, rfl⟩
      have hfl : f.length = 20 := by rw [← hf]; exact front_len _ _ _
      have HFF := Lib.hid hf
      rw [hf] at hO
      replace hO : wr.ownsRow w.heap.size 5 1 v0 20 (f.map bv) := hO
      clear hf HF HF0 HO
      obtain ⟨g, c, rfl, hg, hgl⟩ := own_headE hO (by omega)
      obtain ⟨A9, k9, e9, hk9, hR9, -⟩ := own_form hO
      injection e9 with e9 e10 e11
      subst e9 e11
      replace hR9 : RB wr (some ⟨g, 0, none⟩) f := hR9
      have hRP := rp1_o wr 26 (some ⟨g, 0, none⟩) 20 c f hfl hk9 hR9 rfl
      have hck := cks_le f
      obtain ⟨cf, hcf⟩ : ∃ cf, cks f = cf := ⟨_, rfl⟩
      have HCF := Lib.hid hcf
      rw [hcf] at hck
      clear hcf hR9
      go_wp2_with fail
      (with_reducible refine (sum1_any f _ 1 _ hRP (by omega)).mono ?_)
      rintro e w5 ⟨rfl, rfl⟩
      rw [HCF.out]
      clear hRP
      obtain ⟨a, ha, HA⟩ : ∃ x : UInt8, (cf : Int) / 256 = (x.toNat : Int) ∧ Hid (x = UInt8.ofNat (cf / 256)) := ⟨UInt8.ofNat (cf / 256), by rw [UInt8.toNat_ofNat']; omega, rfl⟩
      obtain ⟨b, hbb, HB⟩ : ∃ x : UInt8, (cf : Int) % 256 = (x.toNat : Int) ∧ Hid (x = UInt8.ofNat cf) := ⟨UInt8.ofNat cf, by rw [UInt8.toNat_ofNat']; omega, rfl⟩
      have hal : (a.toNat : Int) % 256 = (a.toNat : Int) := by have := a.toNat_lt; omega
      have hOw := hO.alloc (.cells #[.slice (some ⟨g, 0, none⟩) 20 c] 26)
      have hbw : Below w.heap.size w (wr.alloc (.cells #[.slice (some ⟨g, 0, none⟩) 20 c] 26)) := below_al hb _
      generalize wr.alloc (.cells #[.slice (some ⟨g, 0, none⟩) 20 c] 26) = w6 at *
      have c10 := own_cellE hOw 10 (by omega)
      have c11 := own_cellE hOw 11 (by omega)
      rw [List.getElem?_map, List.getElem?_eq_getElem (by omega)] at c10 c11
      simp only [Option.map_some] at c10 c11
      have f10 := hOw.frozenAt 10
      have f11 := hOw.frozenAt 11
      have hst1 := (hOw.stored 10 (.int .u8 (a.toNat : Int))).1
      have hst2 := (hst1.stored 11 (.int .u8 (b.toNat : Int))).1
      have hfin : Below w.heap.size w ((w6.setCell ⟨g, 10, none⟩ (.int .u8 (a.toNat : Int))).setCell ⟨g, 11, none⟩ (.int .u8 (b.toNat : Int))) := (hbw.setCell (show w.heap.size ≤ g from hg) _).setCell (show w.heap.size ≤ g from hg) _
      have HFIN : Hid (((w6.setCell ⟨g, 10, none⟩ (.int .u8 (a.toNat : Int))).setCell ⟨g, 11, none⟩ (.int .u8 (b.toNat : Int))).ownsRow w.heap.size 5 1 (.slice (some ⟨g, 0, none⟩) 20 c) 20 ((frontS (oq src dst) n).map bv)) := by
        show World.ownsRow _ _ _ _ _ _ _
        have e : (frontS (oq src dst) n).map bv = ((f.map bv).set 10 (.int .u8 (a.toNat : Int))).set 11 (.int .u8 (b.toNat : Int)) := by
          have h := front_set' (oq src dst) n cf
          show (front (oq src dst) n (cks (front (oq src dst) n 0))).map bv = _
          rw [HFF.out, HCF.out, ← h, HFF.out, ← HA.out, ← HB.out, List.map_set, List.map_set]
        rw [e]
        exact hst2
      clear hst1 hst2 hOw hO
      generalize bv f[10] = o10 at *
      generalize bv f[11] = o11 at *
      go_wp2_with fail
      go_ret
      exact ⟨_, rfl, HFIN.out, hfin⟩
end Go.Proofs.Ytleahlgimppjkaa
