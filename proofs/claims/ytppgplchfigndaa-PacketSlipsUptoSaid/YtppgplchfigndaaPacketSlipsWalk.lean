/- The walk of PacketSlips. -/
import Derived.Test.YtppgplchfigndaaPacketCutsWalk
import Derived.Test.YtppgplchfigndaaPktSlip
namespace Go.Proofs.Ytppgplchfigndaa
set_option linter.unusedVariables false
set_option linter.unusedSimpArgs false
open Go.RowKit

theorem xor8 : ∀ x : Nat, x < 256 → ∀ j : Nat, j < 8 → bits .xor .u8 (x : Int) (2 ^ j % 256) = ((x ^^^ 2 ^ j : Nat) : Int) := by decide +kernel
set_option maxRecDepth 100000 in
set_option maxHeartbeats 6400000 in
theorem PacketSlips_walk (p : Pk) (B0 : Option Addr) (e0' : Nat) (x : Int) (w : World) (hd : PkD w B0 e0' p) (hu : U32s p) (hdl : p.data.length ≤ 1048576) :
    Calls Try.prog 5 #[pkv p B0 e0', .int .i64 x] w fun e w' => e = .returned (.bool true) ∧ Below w.heap.size w w' := by
  have hb0 : Below w.heap.size w (w.alloc (.cells #[.int .i64 p.tos, .int .i64 p.id, .int .i64 p.ttl, .int .i64 p.fl.proto, .int .u32 p.fl.src, .int .i64 p.fl.sp, .int .u32 p.fl.dst, .int .i64 p.fl.dp, .int .u32 p.seq, .int .u32 p.ack, .int .i64 p.flags, .int .i64 p.win, .slice B0 p.data.length e0'] 28)) := (Below.refl _ w).alloc (Nat.le_refl _) _
  have hX : Blk (w.alloc (.cells #[.int .i64 p.tos, .int .i64 p.id, .int .i64 p.ttl, .int .i64 p.fl.proto, .int .u32 p.fl.src, .int .i64 p.fl.sp, .int .u32 p.fl.dst, .int .i64 p.fl.dp, .int .u32 p.seq, .int .u32 p.ack, .int .i64 p.flags, .int .i64 p.win, .slice B0 p.data.length e0'] 28)) w.heap.size 28 (pkc p B0 e0') := Blk.new w _ _
  go_enter Try.func5, Try.ntmps5
  go_wp2_with fail
  generalize w.alloc (.cells #[.int .i64 p.tos, .int .i64 p.id, .int .i64 p.ttl, .int .i64 p.fl.proto, .int .u32 p.fl.src, .int .i64 p.fl.sp, .int .u32 p.fl.dst, .int .i64 p.fl.dp, .int .u32 p.seq, .int .u32 p.ack, .int .i64 p.flags, .int .i64 p.win, .slice B0 p.data.length e0'] 28) = wa at *
  have hs0 : w.heap.size < wa.heap.size := hX.lt
  (with_reducible refine (alive_any wa).mono ?_)
  rintro e w1 ⟨rfl, hb1⟩
  have hw1 := below_call hb0 hb1
  have hs1 := hb1.size
  have hX1 := hX.kept hb1
  clear hX hb0 hb1
  obtain ⟨c0, c1, c2, c3, c4, c5, c6, c7, c8, c9, c10, c11, c12⟩ := blk13 hX1
  go_wp2_with fail
  (with_reducible refine (pbuild_any p B0 e0' w1 (hd.below hw1) hu).mono ?_)
  rintro e w2 ⟨v, E, rfl, hcase, hb2⟩
  have hw2 := below_call hw1 hb2
  have hs2 := hb2.size
  have hX2 := hX1.kept hb2
  clear hX1 hw1 hb2
  clear c0 c1 c2 c3 c4 c5 c6 c7 c8 c9 c10 c11 c12
  obtain ⟨c0, c1, c2, c3, c4, c5, c6, c7, c8, c9, c10, c11, c12⟩ := blk13 hX2
  rcases hcase.out with ⟨hg, rfl, hO⟩ | ⟨hg, rfl, rfl⟩
  rotate_left
  focus
    clear hcase
    go_wp2_with fail
    go_ret
    exact ⟨rfl, hw2⟩
  focus
    have hI : Hid (IsPk (build p) p) := ⟨hg, hu, rfl⟩
    have hsh := isPk_shape hI.out
    have hxl := hsh.2.1
    have hx0 := hsh.1
    clear hsh hcase hg hX2 c0 c1 c2 c3 c4 c5 c6 c7 c8 c9 c10 c11 c12
    generalize build p = xb at *
    obtain ⟨n, hn⟩ : ∃ n, n = xb.length := ⟨_, rfl⟩
    rw [← hn] at hxl hx0 hO
    have HN := Lib.hid hn.symm
    clear hn
    obtain ⟨gx, k, rfl, hgx, hgl⟩ := own_headE hO (by omega)
    go_upto_region 6 with (fail)
    obtain ⟨y, hy0, hy⟩ : ∃ y : Nat, IntKind.u64.wrap x = (y : Int) ∧ y < 18446744073709551616 := by
      have h : 0 ≤ IntKind.u64.wrap x ∧ IntKind.u64.wrap x < 18446744073709551616 := by simp [IntKind.wrap, IntKind.bits, IntKind.signed]; omega
      exact ⟨(IntKind.u64.wrap x).toNat, by omega, by omega⟩
    have hyn : y % (8 * n) < 8 * n := Nat.mod_lt _ (by omega)
    have e0 : IntKind.i64.wrap (8 * (n : Int)) = 8 * (n : Int) := IntWalk.i64_in _ (by omega)
    have e1 : IntKind.u64.wrap (8 * (n : Int)) = 8 * (n : Int) := IntWalk.u64_in _ (by omega)
    have e2 : IntKind.u64.wrap (((y % (8 * n) : Nat) : Int)) = ((y % (8 * n) : Nat) : Int) := IntWalk.u64_in _ (by omega)
    have e3 : IntKind.i64.wrap (((y % (8 * n) : Nat) : Int)) = ((y % (8 * n) : Nat) : Int) := IntWalk.i64_in _ (by omega)
    have e4 : (y : Int).tmod (8 * (n : Int)) = ((y % (8 * n) : Nat) : Int) := rfl
    have e5 : ¬ ((n : Int) = 0) := by omega
    obtain ⟨m, hmm⟩ : ∃ m, y % (8 * n) = m := ⟨_, rfl⟩
    rw [hmm] at hyn e2 e3 e4
    clear hmm
    go_upto_region 7 with (fail)
    clear hy0 hy e0 e1 e2 e3 e4 e5
    obtain ⟨i, hi⟩ : ∃ i, i = m / 8 := ⟨_, rfl⟩
    obtain ⟨j, hj⟩ : ∃ j, j = m % 8 := ⟨_, rfl⟩
    have f1 : (m : Int).tdiv 8 = (i : Int) := by rw [hi]; rfl
    have f2 : (m : Int).tmod 8 = (j : Int) := by rw [hj]; rfl
    have f3 : IntKind.i64.wrap (i : Int) = (i : Int) := IntWalk.i64_in _ (by omega)
    have f4 : IntKind.i64.wrap (j : Int) = (j : Int) := IntWalk.i64_in _ (by omega)
    have f5 : IntKind.u64.wrap (j : Int) = (j : Int) := IntWalk.u64_in _ (by omega)
    have f6 : (i : Int) < (n : Int) := by omega
    have f7 : (0 : Int) ≤ (i : Int) := by omega
    have hin : i < n := by omega
    have hj8 : j < 8 := by omega
    have cc := own_cellE hO i (by omega)
    rw [List.getElem?_map, List.getElem?_eq_getElem (by rw [HN.out]; exact hin)] at cc
    simp only [Option.map_some] at cc
    have cf := hO.frozenAt i
    clear hi hj hyn
    go_wp2_with fail
    obtain ⟨z, hz1, hz2⟩ : ∃ z : UInt8, z.toNat = (xb[i]'(by rw [HN.out]; exact hin)).toNat ^^^ 2 ^ j ∧ bits .xor .u8 ((xb[i]'(by rw [HN.out]; exact hin)).toNat : Int) (2 ^ j % 256) = (z.toNat : Int) := by
      have hl := (xb[i]'(by rw [HN.out]; exact hin)).toNat_lt
      generalize (xb[i]'(by rw [HN.out]; exact hin)).toNat = a at *
      have h1 := flip8 a hl j hj8
      have h2 := xor8 a hl j hj8
      refine ⟨UInt8.ofNat (a ^^^ 2 ^ j), ?_, ?_⟩
      · rw [UInt8.toNat_ofNat']; omega
      · rw [h2, UInt8.toNat_ofNat']; omega
    rw [hz2]
    have hno := Lib.hid (slip_none hI.out (by rw [HN.out]; exact hin) hj8 hz1)
    have hst := hO.stored i (.int .u8 (z.toNat : Int))
    have hO3 := hst.1
    rw [show (xb.map bv).set i (.int .u8 (z.toNat : Int)) = (xb.set i z).map bv by rw [List.map_set]] at hO3
    have hw3 : Below w.heap.size w (w2.setCell ⟨gx, i, none⟩ (.int .u8 (z.toNat : Int))) := hw2.setCell (show w.heap.size ≤ gx by omega) _
    generalize w2.setCell ⟨gx, i, none⟩ (.int .u8 (z.toNat : Int)) = w3 at *
    have hR3 : RB w3 (some ⟨gx, 0, none⟩) (xb.set i z) := RC.of_own hO3
    obtain ⟨A3, k3, e3, hk3, -, -⟩ := own_form hO3
    injection e3 with e3 e4 e5
    have hl3 : (xb.set i z).length = n := by rw [List.length_set, HN.out]
    clear cc cf hO3 hst hO hz1 hz2 f1 f2 f3 f4 f5 f6 f7
    (with_reducible refine (parse_badn (xb.set i z) (some ⟨gx, 0, none⟩) n k w3 hl3 hR3 (by omega) hno.out).mono ?_)
    rintro e w4 ⟨rfl, hb4⟩
    have hw4 := below_call hw3 hb4
    have heq := er_eql 2 2 w4
    go_wp2_with fail
    go_ret
    exact ⟨rfl, hw4⟩
theorem PacketSlipsX_walk {H : Type} {da : DataW H} (p : Pk) (v : Value) (x : Int) (w : World) (o : PktIs w v da p) (b0 : Rows.uptoBulk da ≤ 1048576) (_u : (Lit.int .i64 x).wf = true) :
    Calls Try.prog 5 #[v, .int .i64 x] w fun e w' => e = .returned (.bool true) ∧ Below w.heap.size w w' := by
  obtain ⟨B0, e0', rfl, h1, h2, h3⟩ := o
  exact PacketSlips_walk p B0 e0' x w h1 h2 (by have := h1.1; omega)
end Go.Proofs.Ytppgplchfigndaa
