/- The walk of TunnelCuts. -/
import Derived.Test.YtjehllgipfanmaaTunAlive
import Derived.Test.YtjehllgipfanmaaPktOpen
namespace Go.Proofs.Ytjehllgipfanmaa
set_option linter.unusedVariables false
set_option linter.unusedSimpArgs false
open Go.RowKit

set_option maxRecDepth 100000 in
set_option maxHeartbeats 6400000 in
theorem TunnelCuts_walk (p : Pk) (B0 : Option Addr) (e0' : Nat) (src x : Int) (w : World) (hd : PkD w B0 e0' p) (hu : U32s p) (hs : U32 src) :
    Calls Try.prog 7 #[.int .u32 src, pkv p B0 e0', .int .i64 x] w fun e w' => e = .returned (.bool true) ∧ Below w.heap.size w w' := by
  have hb0 : Below w.heap.size w (w.alloc (.cells #[.int .i64 p.tos, .int .i64 p.id, .int .i64 p.ttl, .int .i64 p.fl.proto, .int .u32 p.fl.src, .int .i64 p.fl.sp, .int .u32 p.fl.dst, .int .i64 p.fl.dp, .int .u32 p.seq, .int .u32 p.ack, .int .i64 p.flags, .int .i64 p.win, .slice B0 p.data.length e0'] 49)) := (Below.refl _ w).alloc (Nat.le_refl _) _
  have hX : Blk (w.alloc (.cells #[.int .i64 p.tos, .int .i64 p.id, .int .i64 p.ttl, .int .i64 p.fl.proto, .int .u32 p.fl.src, .int .i64 p.fl.sp, .int .u32 p.fl.dst, .int .i64 p.fl.dp, .int .u32 p.seq, .int .u32 p.ack, .int .i64 p.flags, .int .i64 p.win, .slice B0 p.data.length e0'] 49)) w.heap.size 49 (pkc p B0 e0') := Blk.new w _ _
  go_enter Try.func7, Try.ntmps7
  go_wp2_with fail
  generalize w.alloc (.cells #[.int .i64 p.tos, .int .i64 p.id, .int .i64 p.ttl, .int .i64 p.fl.proto, .int .u32 p.fl.src, .int .i64 p.fl.sp, .int .u32 p.fl.dst, .int .i64 p.fl.dp, .int .u32 p.seq, .int .u32 p.ack, .int .i64 p.flags, .int .i64 p.win, .slice B0 p.data.length e0'] 49) = wa at *
  have hs0 : w.heap.size < wa.heap.size := hX.lt
  (with_reducible refine (alive_any wa).mono ?_)
  rintro e w1 ⟨rfl, hb1⟩
  have hw1 := below_call hb0 hb1
  have hs1 := hb1.size
  have hX1 := hX.kept hb1
  clear hX hb0 hb1
  obtain ⟨c0, c1, c2, c3, c4, c5, c6, c7, c8, c9, c10, c11, c12⟩ := blk13 hX1
  go_wp2_with fail
  (with_reducible refine (rbuild_any p B0 e0' w1 (hd.below hw1) hu).mono ?_)
  rintro e w2 ⟨v, E, rfl, hcase, hb2⟩
  have hw2 := below_call hw1 hb2
  have hs2 := hb2.size
  clear hX1 hw1 hb2 c0 c1 c2 c3 c4 c5 c6 c7 c8 c9 c10 c11 c12
  rcases hcase.out with ⟨hg, rfl, hO⟩ | ⟨hg, rfl, rfl⟩
  rotate_left
  focus
    clear hcase
    go_wp2_with fail
    go_ret
    exact ⟨rfl, hw2⟩
  focus
    have hI : Hid (IsPk (build p) p) := ⟨hg, hu, rfl⟩
    have hx0 := (isPk_shape hI.out).1
    clear hcase hg
    generalize build p = xb at *
    obtain ⟨X, k, rfl, hk, hR, -⟩ := own_form hO
    replace hR : RB w2 X xb := hR
    clear hO
    obtain ⟨n, hn⟩ : ∃ n, n = xb.length := ⟨_, rfl⟩
    rw [← hn] at hx0 hk ⊢
    have HN := Lib.hid hn.symm
    clear hn
    by_cases hbig : 1480 < n
    · have kb : (1480 : Int) < (n : Int) := by omega
      go_wp2_with fail
      go_ret
      exact ⟨rfl, hw2⟩
    have kb : ¬ (1480 : Int) < (n : Int) := by omega
    go_wp2_with fail
    have hd2 := hs
    (with_reducible refine (wrap_good src src xb p X n k w2 hs hd2 HN.out hR hk hI.out (by omega)).mono ?_)
    rintro e w3 ⟨v3, rfl, hO3, hb3⟩
    have HW : Hid (IsW (wrapB src src xb) src src xb) := isW_mk hI.out (by rw [HN.out]; omega) hs hd2
    have hsh := isW_shape HW.out
    have hwl : (wrapB src src xb).length = 20 + n := by rw [hsh.1, HN.out]
    have hw3 := below_call hw2 hb3
    have hs3 := hb3.size
    have hsw := hw2.size
    clear hsh hb3 hR hs1
    generalize wrapB src src xb = wq at *
    obtain ⟨m, hm⟩ : ∃ m, m = 20 + n := ⟨_, rfl⟩
    rw [← hm] at hO3 hwl
    have HWL := Lib.hid hwl
    clear hwl
    have hm1 : 48 ≤ m := by omega
    have hm2 : m ≤ 1500 := by omega
    clear hm
    obtain ⟨gx, kx, rfl, hgx, hgl⟩ := own_headE hO3 (by omega)
    obtain ⟨A9, k9, e9, hkx, hR3, -⟩ := own_form hO3
    injection e9 with e9 e10 e11
    subst e9 e11
    replace hR3 : RB w3 (some ⟨gx, 0, none⟩) wq := hR3
    clear hO3
    go_wp2_with fail
    (with_reducible refine (wrap_no src src wq (some ⟨gx, 0, none⟩) m kx w3 HWL.out hR3 hkx (isW_notPk HW.out)).mono ?_)
    rintro e w4 ⟨rfl, hb4⟩
    have hw4 := below_call hw3 hb4
    have hR4 := hR3.below hb4
    have heq := er_eql 2 2 w4
    clear hR3 hb4 hw3
    obtain ⟨y, hy0, hy⟩ : ∃ y : Nat, IntKind.u64.wrap x = (y : Int) ∧ y < 18446744073709551616 := by
      have h : 0 ≤ IntKind.u64.wrap x ∧ IntKind.u64.wrap x < 18446744073709551616 := by simp [IntKind.wrap, IntKind.bits, IntKind.signed]; omega
      exact ⟨(IntKind.u64.wrap x).toNat, by omega, by omega⟩
    have hyn : y % m < m := Nat.mod_lt _ (by omega)
    have e1 : IntKind.u64.wrap (m : Int) = (m : Int) := IntWalk.u64_in _ (by omega)
    have e2 : IntKind.u64.wrap (((y % m : Nat) : Int)) = ((y % m : Nat) : Int) := IntWalk.u64_in _ (by omega)
    have e3 : IntKind.i64.wrap (((y % m : Nat) : Int)) = ((y % m : Nat) : Int) := IntWalk.i64_in _ (by omega)
    have e4 : (y : Int).tmod (m : Int) = ((y % m : Nat) : Int) := rfl
    have e5 : ¬ ((m : Int) = 0) := by omega
    obtain ⟨i, hi⟩ : ∃ i, y % m = i := ⟨_, rfl⟩
    rw [hi] at hyn e2 e3 e4
    clear hi
    have m1 : (i : Int) ≤ (kx : Int) := by omega
    go_wp2_with fail
    have ht : (wq.take i).length = i := by rw [List.length_take, HWL.out]; omega
    have hno := Lib.hid (wcut_none HW.out (show i < wq.length by rw [HWL.out]; exact hyn))
    (with_reducible refine (is_no (wq.take i) (some ⟨gx, 0, none⟩) i kx w4 ht (hR4.take_ i) (by omega) (by omega) hno.out).mono ?_)
    rintro e w5 ⟨rfl, hb5⟩
    have hw5 := below_call hw4 hb5
    clear hno ht
    go_wp2_with fail
    go_ret
    exact ⟨rfl, hw5⟩
theorem TunnelCutsX_walk {H : Type} {da : DataW H} (src : Int) (p : Pk) (v : Value) (x : Int) (w : World) (u0 : (Lit.int .u32 src).wf = true) (o : PktIs w v da p) (b0 : Rows.uptoBulk da ≤ 1048576) (_u : (Lit.int .i64 x).wf = true) :
    Calls Try.prog 7 #[.int .u32 src, v, .int .i64 x] w fun e w' => e = .returned (.bool true) ∧ Below w.heap.size w w' := by
  obtain ⟨B0, e0', rfl, h1, h2, h3⟩ := o
  exact TunnelCuts_walk p B0 e0' src x w h1 h2 (u32_of_wf u0)
end Go.Proofs.Ytjehllgipfanmaa
