/- The walk of what TunnelTurns says. -/
import Derived.Test.YtjehllgipfanmaaTunAlive
import Derived.Test.YtjehllgipfanmaaPktOpen
namespace Go.Proofs.Ytjehllgipfanmaa
set_option linter.unusedVariables false
set_option linter.unusedSimpArgs false
open Go.RowKit

theorem xor8 : ∀ x : Nat, x < 256 → ∀ j : Nat, j < 8 → bits .xor .u8 (x : Int) (2 ^ j % 256) = ((x ^^^ 2 ^ j : Nat) : Int) := by decide +kernel
set_option maxRecDepth 100000 in
set_option maxHeartbeats 6400000 in
theorem slips_walk (p : Pk) (B0 : Option Addr) (e0' : Nat) (src dst x : Int) (w : World) (hd : PkD w B0 e0' p) (hu : U32s p) (hs : U32 src) (hd2 : U32 dst) :
    Calls Try.prog 19 #[.int .u32 src, .int .u32 dst, pkv p B0 e0', .int .i64 x] w fun e w' => e = .returned (.bool true) ∧ Below w.heap.size w w' := by
  have hb0 : Below w.heap.size w (w.alloc (.cells #[.int .i64 p.tos, .int .i64 p.id, .int .i64 p.ttl, .int .i64 p.fl.proto, .int .u32 p.fl.src, .int .i64 p.fl.sp, .int .u32 p.fl.dst, .int .i64 p.fl.dp, .int .u32 p.seq, .int .u32 p.ack, .int .i64 p.flags, .int .i64 p.win, .slice B0 p.data.length e0'] 49)) := (Below.refl _ w).alloc (Nat.le_refl _) _
  have hX : Blk (w.alloc (.cells #[.int .i64 p.tos, .int .i64 p.id, .int .i64 p.ttl, .int .i64 p.fl.proto, .int .u32 p.fl.src, .int .i64 p.fl.sp, .int .u32 p.fl.dst, .int .i64 p.fl.dp, .int .u32 p.seq, .int .u32 p.ack, .int .i64 p.flags, .int .i64 p.win, .slice B0 p.data.length e0'] 49)) w.heap.size 49 (pkc p B0 e0') := Blk.new w _ _
  go_enter Try.func19, Try.ntmps19
  go_wp2_with fail
  generalize w.alloc (.cells #[.int .i64 p.tos, .int .i64 p.id, .int .i64 p.ttl, .int .i64 p.fl.proto, .int .u32 p.fl.src, .int .i64 p.fl.sp, .int .u32 p.fl.dst, .int .i64 p.fl.dp, .int .u32 p.seq, .int .u32 p.ack, .int .i64 p.flags, .int .i64 p.win, .slice B0 p.data.length e0'] 49) = wa at *
  have hs0 : w.heap.size < wa.heap.size := hX.lt
  (with_reducible refine (alive_any wa).mono ?_)
  rintro e w1 ⟨rfl, hb1⟩
  have hw1 := below_call hb0 hb1
  have hs1 := hb1.size
  have hX1 := hX.kept hb1
  clear hX hb0 hb1
  obtain ⟨c0, c1, c2, c3, c4, c5, c6, c7, c8, c9, c10, c11, c12⟩ := blk13 hX1
  go_wp2_with fail
  (with_reducible refine (rbuild_any p B0 e0' w1 (hd.below hw1) hu).mono ?_)
  rintro e w2 ⟨v, E, rfl, hcase, hb2⟩
  have hw2 := below_call hw1 hb2
  have hs2 := hb2.size
  clear hX1 hw1 hb2 c0 c1 c2 c3 c4 c5 c6 c7 c8 c9 c10 c11 c12
  rcases hcase.out with ⟨hg, rfl, hO⟩ | ⟨hg, rfl, rfl⟩
  rotate_left
  focus
    clear hcase
    go_wp2_with fail
    go_ret
    exact ⟨rfl, hw2⟩
  focus
    have hI : Hid (IsPk (build p) p) := ⟨hg, hu, rfl⟩
    have hx0 := (isPk_shape hI.out).1
    clear hcase hg
    generalize build p = xb at *
    obtain ⟨X, k, rfl, hk, hR, -⟩ := own_form hO
    replace hR : RB w2 X xb := hR
    clear hO
    obtain ⟨n, hn⟩ : ∃ n, n = xb.length := ⟨_, rfl⟩
    rw [← hn] at hx0 hk ⊢
    have HN := Lib.hid hn.symm
    clear hn
    by_cases hbig : 1480 < n
    · have kb : (1480 : Int) < (n : Int) := by omega
      go_wp2_with fail
      go_ret
      exact ⟨rfl, hw2⟩
    have kb : ¬ (1480 : Int) < (n : Int) := by omega
    go_wp2_with fail
    (with_reducible refine (wrap_good src dst xb p X n k w2 hs hd2 HN.out hR hk hI.out (by omega)).mono ?_)
    rintro e w3 ⟨v3, rfl, hO3, hb3⟩
    have HW : Hid (IsW (wrapB src dst xb) src dst xb) := isW_mk hI.out (by rw [HN.out]; omega) hs hd2
    have hsh := isW_shape HW.out
    have hwl : (wrapB src dst xb).length = 20 + n := by rw [hsh.1, HN.out]
    have hw3 := below_call hw2 hb3
    have hs3 := hb3.size
    have hsw := hw2.size
    clear hsh hb3 hR hs1
    generalize wrapB src dst xb = wq at *
    obtain ⟨m, hm⟩ : ∃ m, m = 20 + n := ⟨_, rfl⟩
    rw [← hm] at hO3 hwl
    have HWL := Lib.hid hwl
    clear hwl
    have hm1 : 48 ≤ m := by omega
    have hm2 : m ≤ 1500 := by omega
    clear hm
    obtain ⟨gx, kx, rfl, hgx, hgl⟩ := own_headE hO3 (by omega)
    obtain ⟨A9, k9, e9, hkx, hR3, -⟩ := own_form hO3
    injection e9 with e9 e10 e11
    subst e9 e11
    replace hR3 : RB w3 (some ⟨gx, 0, none⟩) wq := hR3
    go_upto_region 9 with (fail)
    obtain ⟨y, hy0, hy⟩ : ∃ y : Nat, IntKind.u64.wrap x = (y : Int) ∧ y < 18446744073709551616 := by
      have h : 0 ≤ IntKind.u64.wrap x ∧ IntKind.u64.wrap x < 18446744073709551616 := by simp [IntKind.wrap, IntKind.bits, IntKind.signed]; omega
      exact ⟨(IntKind.u64.wrap x).toNat, by omega, by omega⟩
    have hyn : y % (8 * m) < 8 * m := Nat.mod_lt _ (by omega)
    have e0 : IntKind.i64.wrap (8 * (m : Int)) = 8 * (m : Int) := IntWalk.i64_in _ (by omega)
    have e1 : IntKind.u64.wrap (8 * (m : Int)) = 8 * (m : Int) := IntWalk.u64_in _ (by omega)
    have e2 : IntKind.u64.wrap (((y % (8 * m) : Nat) : Int)) = ((y % (8 * m) : Nat) : Int) := IntWalk.u64_in _ (by omega)
    have e3 : IntKind.i64.wrap (((y % (8 * m) : Nat) : Int)) = ((y % (8 * m) : Nat) : Int) := IntWalk.i64_in _ (by omega)
    have e4 : (y : Int).tmod (8 * (m : Int)) = ((y % (8 * m) : Nat) : Int) := rfl
    have e5 : ¬ ((m : Int) = 0) := by omega
    obtain ⟨q, hq⟩ : ∃ q, y % (8 * m) = q := ⟨_, rfl⟩
    rw [hq] at hyn e2 e3 e4
    clear hq
    go_upto_region 10 with (fail)
    clear hy0 hy e0 e1 e2 e3 e4 e5
    obtain ⟨i, hi⟩ : ∃ i, i = q / 8 := ⟨_, rfl⟩
    obtain ⟨j, hj⟩ : ∃ j, j = q % 8 := ⟨_, rfl⟩
    have f1 : (q : Int).tdiv 8 = (i : Int) := by rw [hi]; rfl
    have f2 : (q : Int).tmod 8 = (j : Int) := by rw [hj]; rfl
    have f3 : IntKind.i64.wrap (i : Int) = (i : Int) := IntWalk.i64_in _ (by omega)
    have f4 : IntKind.i64.wrap (j : Int) = (j : Int) := IntWalk.i64_in _ (by omega)
    have f5 : IntKind.u64.wrap (j : Int) = (j : Int) := IntWalk.u64_in _ (by omega)
    have f6 : (i : Int) < (m : Int) := by omega
    have f7 : (0 : Int) ≤ (i : Int) := by omega
    have hin : i < m := by omega
    have hj8 : j < 8 := by omega
    have cc := own_cellE hO3 i (by omega)
    rw [List.getElem?_map, List.getElem?_eq_getElem (by rw [HWL.out]; exact hin)] at cc
    simp only [Option.map_some] at cc
    have cf := hO3.frozenAt i
    clear hi hj hyn
    go_wp2_with fail
    obtain ⟨z, hz1, hz2⟩ : ∃ z : UInt8, z.toNat = (wq[i]'(by rw [HWL.out]; exact hin)).toNat ^^^ 2 ^ j ∧ bits .xor .u8 ((wq[i]'(by rw [HWL.out]; exact hin)).toNat : Int) (2 ^ j % 256) = (z.toNat : Int) := by
      have hl := (wq[i]'(by rw [HWL.out]; exact hin)).toNat_lt
      generalize (wq[i]'(by rw [HWL.out]; exact hin)).toNat = a at *
      have h1 := flip8 a hl j hj8
      have h2 := xor8 a hl j hj8
      refine ⟨UInt8.ofNat (a ^^^ 2 ^ j), ?_, ?_⟩
      · rw [UInt8.toNat_ofNat']; omega
      · rw [h2, UInt8.toNat_ofNat']; omega
    rw [hz2]
    have hno := Lib.hid (wslip_none HW.out (by rw [HWL.out]; exact hin) hj8 hz1)
    have hst := hO3.stored i (.int .u8 (z.toNat : Int))
    have hO4 := hst.1
    rw [show (wq.map bv).set i (.int .u8 (z.toNat : Int)) = (wq.set i z).map bv by rw [List.map_set]] at hO4
    have hw4 : Below w.heap.size w (w3.setCell ⟨gx, i, none⟩ (.int .u8 (z.toNat : Int))) := hw3.setCell (show w.heap.size ≤ gx by omega) _
    generalize w3.setCell ⟨gx, i, none⟩ (.int .u8 (z.toNat : Int)) = w4 at *
    have hR4 : RB w4 (some ⟨gx, 0, none⟩) (wq.set i z) := RC.of_own hO4
    have hl3 : (wq.set i z).length = m := by rw [List.length_set, HWL.out]
    clear cc cf hO4 hst hO3 hz1 hz2 f1 f2 f3 f4 f5 f6 f7 hR3
    (with_reducible refine (is_no (wq.set i z) (some ⟨gx, 0, none⟩) m kx w4 hl3 hR4 (by omega) (by omega) hno.out).mono ?_)
    rintro e w5 ⟨rfl, hb5⟩
    have hw5 := below_call hw4 hb5
    go_wp2_with fail
    go_ret
    exact ⟨rfl, hw5⟩
end Go.Proofs.Ytjehllgipfanmaa
