/- The walk of TunnelBack. -/
import Derived.Test.YtjehllgipfanmaaTunAlive
namespace Go.Proofs.Ytjehllgipfanmaa
set_option linter.unusedVariables false
set_option linter.unusedSimpArgs false
open Go.RowKit

theorem u32w {z : Int} (h : (Lit.int .u32 z).wf = true) : U32 z := by
  have : 0 ≤ z ∧ z ≤ 4294967295 := by simpa [Lit.wf, IntKind.min, IntKind.max, IntKind.signed, IntKind.bits] using h
  exact this
set_option maxRecDepth 100000 in
set_option maxHeartbeats 6400000 in
theorem TunnelBack_walk (src dst : Int) (b : List UInt8) (A : Option Addr) (c : Nat) (w : World) (hs : U32 src) (hd2 : U32 dst) (hc : b.length ≤ c) (hA : RB w A b) (hbl : b.length ≤ 1048576) :
    Calls Try.prog 5 #[.int .u32 src, .int .u32 dst, .slice A b.length c] w fun e w' => e = .returned (.bool true) ∧ Below w.heap.size w w' := by
  go_enter Try.func5, Try.ntmps5
  go_wp2_with fail
  (with_reducible refine (alive_any w).mono ?_)
  rintro e w1 ⟨rfl, hw1⟩
  obtain ⟨n, hn⟩ : ∃ n, n = b.length := ⟨_, rfl⟩
  rw [← hn] at hc hbl ⊢
  have HN := Lib.hid hn.symm
  clear hn
  by_cases hp : IsPk b (opn b)
  · have HP := Lib.hid hp
    have HNW : Hid (¬ IsWb b) := pk_notW hp
    have hpl := (isPk_shape hp).2.1
    rw [HN.out] at hpl
    clear hp
    go_wp2_with fail
    (with_reducible refine (flow_good b (opn b) A n c w1 HN.out (hA.below hw1) hc HP.out).mono ?_)
    rintro e w2 ⟨rfl, hb2⟩
    obtain ⟨f, hf⟩ : ∃ f, f = (opn b).fl := ⟨_, rfl⟩
    rw [← hf]
    clear hf
    obtain ⟨fs, hfs⟩ : ∃ fs : Array Value, #[.int .i64 f.proto, .int .u32 f.src, .int .i64 f.sp, .int .u32 f.dst, .int .i64 f.dp] = fs := ⟨_, rfl⟩
    have hsz : fs.size = 5 := by rw [← hfs]; rfl
    have hst := store5n (P := Try.prog) w2 fs (by rw [← hfs]; rfl) (by rw [← hfs]; exact fl_one f)
    have hN : Below w2.heap.size w2 ((w2.alloc (.cells #[.int .i64 0, .int .u32 0, .int .i64 0, .int .u32 0, .int .i64 0] 44)).setRow w2.heap.size fs) := below_row (below_al (Below.refl _ w2) _) (Nat.le_refl _)
    have hC3 := below_call hb2 hN
    clear hN hb2
    generalize hgg : w2.heap.size = g3 at *
    go_upto_region 4 with (fail)
    generalize (w2.alloc (.cells #[.int .i64 0, .int .u32 0, .int .i64 0, .int .u32 0, .int .i64 0] 44)).setRow g3 fs = w3 at *
    clear hst hfs hsz
    have hw3 := below_call hw1 hC3
    go_wp2_with fail
    (with_reducible refine (is_no b A n c w3 HN.out (hA.below hw3) hc (by omega) HNW.out).mono ?_)
    rintro e w4 ⟨rfl, hb4⟩
    have hw4 := below_call hw3 hb4
    by_cases hbig : 1480 < n
    · go_wp2_with fail
      (with_reducible refine (wrap_big src dst b (opn b) A n c w4 HN.out (hA.below hw4) hc HP.out hbig).mono ?_)
      rintro e w5 ⟨rfl, hb5⟩
      have hw5 := below_call hw4 hb5
      go_wp2_with fail
      (with_reducible refine (unwrap_any b A n c w5 HN.out (hA.below hw5) hc (by omega)).mono ?_)
      rintro e x1 ⟨⟨h, -⟩ | ⟨-, rfl⟩, hbx⟩
      · exact absurd h HNW.out
      have hwx := below_call hw5 hbx
      have heq := er_eql 2 2 x1
      go_wp2_with fail
      go_ret
      exact ⟨rfl, hwx⟩
    go_wp2_with fail
    (with_reducible refine (wrap_good src dst b (opn b) A n c w4 hs hd2 HN.out (hA.below hw4) hc HP.out (by omega)).mono ?_)
    rintro e w5 ⟨v5, rfl, hO5, hb5⟩
    have HW : Hid (IsW (wrapB src dst b) src dst b) := isW_mk HP.out (by rw [HN.out]; omega) hs hd2
    have hsh := isW_shape HW.out
    have HWL : Hid ((wrapB src dst b).length = 20 + n) := by show _ = _; rw [hsh.1, HN.out]
    have hW12 := hsh.2.2.2.2.2.2.1
    have hW16 := hsh.2.2.2.2.2.2.2
    have HDR : Hid ((wrapB src dst b).drop 20 = b) := wrapB_drop _ _ _
    have HWW : Hid (IsWb (wrapB src dst b)) := isWb_of HW.out
    have hw5 := below_call hw4 hb5
    clear hsh hb5
    generalize wrapB src dst b = wq at *
    obtain ⟨m, hm⟩ : ∃ m, m = 20 + n := ⟨_, rfl⟩
    rw [← hm] at hO5 HWL
    have hm1 : m ≤ 1500 := by omega
    have HM : Hid (m - 20 = n) := by show _ = _; omega
    clear hm
    obtain ⟨X5, k5, rfl, hk5, hR5, -⟩ := own_form hO5
    replace hR5 : RB w5 X5 wq := hR5
    clear hO5
    go_wp2_with fail
    (with_reducible refine (unwrap_any wq X5 m k5 w5 HWL.out hR5 hk5 (by omega)).mono ?_)
    rintro e w6 ⟨⟨-, v6, rfl, hO6⟩ | ⟨h, rfl⟩, hb6⟩
    rotate_left
    · exact absurd HWW.out h
    rw [HWL.out, HM.out, HDR.out] at hO6
    rw [← hW12, ← hW16]
    obtain ⟨X6, k6, rfl, -, hR6, -⟩ := own_form hO6
    replace hR6 : RB w6 X6 b := hR6
    have hR56 := hR5.below hb6
    have hw6 := below_call hw5 hb6
    clear hO6 hR5 hb6 hW12 hW16
    go_wp2_with fail
    (with_reducible refine (flow_bad wq X5 m k5 w6 HWL.out hR56 hk5 (isW_notPk HW.out)).mono ?_)
    rintro e w7 ⟨rfl, hb7⟩
    obtain ⟨f2, hf2⟩ : ∃ f, f = fl0 := ⟨_, rfl⟩
    rw [← hf2]
    clear hf2
    clear hR56
    obtain ⟨fs, hfs⟩ : ∃ fs : Array Value, #[.int .i64 f2.proto, .int .u32 f2.src, .int .i64 f2.sp, .int .u32 f2.dst, .int .i64 f2.dp] = fs := ⟨_, rfl⟩
    have hsz : fs.size = 5 := by rw [← hfs]; rfl
    have hst := store5n (P := Try.prog) w7 fs (by rw [← hfs]; rfl) (by rw [← hfs]; exact fl_one f2)
    have hN : Below w7.heap.size w7 ((w7.alloc (.cells #[.int .i64 0, .int .u32 0, .int .i64 0, .int .u32 0, .int .i64 0] 44)).setRow w7.heap.size fs) := below_row (below_al (Below.refl _ w7) _) (Nat.le_refl _)
    have hC8 := below_call hb7 hN
    clear hN hb7
    generalize hgg : w7.heap.size = g8 at *
    go_upto_region 10 with (fail)
    generalize (w7.alloc (.cells #[.int .i64 0, .int .u32 0, .int .i64 0, .int .u32 0, .int .i64 0] 44)).setRow g8 fs = w8 at *
    clear hst hfs hsz
    have hw8 := below_call hw6 hC8
    have hR8 := hR6.below hC8
    have hA8 := hA.below hw8
    clear hR6 hC8
    have s1 := run_str (P := Try.prog) _ _ _ _ Try.underlying24 Try.underlying5 Try.underlying9 _ n k6 _ hR8 HN.out
    have s2 := run_str (P := Try.prog) _ _ _ _ Try.underlying24 Try.underlying5 Try.underlying9 _ n c _ hA8 HN.out
    go_upto_region 12 with (fail)
    clear s1 s2
    go_wp2_with fail
    (with_reducible refine (unwrap_any b A n c w8 HN.out hA8 hc (by omega)).mono ?_)
    rintro e x1 ⟨⟨h, -⟩ | ⟨-, rfl⟩, hbx⟩
    · exact absurd h HNW.out
    have hwx := below_call hw8 hbx
    have heq := er_eql 2 2 x1
    go_wp2_with fail
    go_ret
    exact ⟨rfl, hwx⟩
  · have HNP := Lib.hid (fun q (hq : IsPk b q) => hp (isPk_any hq))
    clear hp
    go_wp2_with fail
    (with_reducible refine (flow_bad b A n c w1 HN.out (hA.below hw1) hc HNP.out).mono ?_)
    rintro e w2 ⟨rfl, hb2⟩
    obtain ⟨f, hf⟩ : ∃ f, f = fl0 := ⟨_, rfl⟩
    rw [← hf]
    clear hf
    obtain ⟨fs, hfs⟩ : ∃ fs : Array Value, #[.int .i64 f.proto, .int .u32 f.src, .int .i64 f.sp, .int .u32 f.dst, .int .i64 f.dp] = fs := ⟨_, rfl⟩
    have hsz : fs.size = 5 := by rw [← hfs]; rfl
    have hst := store5n (P := Try.prog) w2 fs (by rw [← hfs]; rfl) (by rw [← hfs]; exact fl_one f)
    have hN : Below w2.heap.size w2 ((w2.alloc (.cells #[.int .i64 0, .int .u32 0, .int .i64 0, .int .u32 0, .int .i64 0] 44)).setRow w2.heap.size fs) := below_row (below_al (Below.refl _ w2) _) (Nat.le_refl _)
    have hC3 := below_call hb2 hN
    clear hN hb2
    generalize hgg : w2.heap.size = g3 at *
    go_upto_region 4 with (fail)
    generalize (w2.alloc (.cells #[.int .i64 0, .int .u32 0, .int .i64 0, .int .u32 0, .int .i64 0] 44)).setRow g3 fs = w3 at *
    clear hst hfs hsz
    have hw3 := below_call hw1 hC3
    go_wp2_with fail
    (with_reducible refine (wrap_no src dst b A n c w3 HN.out (hA.below hw3) hc HNP.out).mono ?_)
    rintro e w5 ⟨rfl, hb5⟩
    have hw5 := below_call hw3 hb5
    go_wp2_with fail
    by_cases hW : IsWb b
    · have HWB := Lib.hid hW
      clear hW
      (with_reducible refine (unwrap_any b A n c w5 HN.out (hA.below hw5) hc (by omega)).mono ?_)
      rintro e x1 ⟨⟨-, v6, rfl, hO6⟩ | ⟨h, rfl⟩, hbx⟩
      rotate_left
      · exact absurd HWB.out h
      have hwx := below_call hw5 hbx
      obtain ⟨q1, q2⟩ := (isWb_iff b).1 HWB.out
      have HQ := Lib.hid q2
      have HOK := Lib.hid (show IsPk (b.drop 20) (opn (b.drop 20)) from And.left q1)
      have hsh := isW_shape HWB.out
      have hsh1 := hsh.1
      have hsh2 := hsh.2.1
      rw [HN.out] at hO6 hsh1
      have h20 : 20 ≤ n := by omega
      have HS2 := Lib.hid hsh2
      clear q1 q2 hsh hsh1 hsh2
      have HDL : Hid ((b.drop 20).length = n - 20) := by show _ = _; rw [List.length_drop, HN.out]
      obtain ⟨X6, k6, rfl, hk6, hR6, -⟩ := own_form hO6
      replace hR6 : RB x1 X6 (b.drop 20) := hR6
      have u12 := u32b b 12
      have u16 := u32b b 16
      clear hO6
      go_wp2_with fail
      (with_reducible refine (wrap_good (b4 b 12 : Int) (b4 b 16 : Int) (b.drop 20) _ X6 (n - 20) k6 x1 u12 u16 HDL.out hR6 hk6 HOK.out (by have h := HS2.out; rw [HDL.out] at h; exact h)).mono ?_)
      rintro e x2 ⟨v7, rfl, hO7, hb7⟩
      rw [HQ.out, show 20 + (n - 20) = n by omega] at hO7
      obtain ⟨X7, k7, rfl, -, hR7, -⟩ := own_form hO7
      replace hR7 : RB x2 X7 b := hR7
      have hw7 := below_call hwx hb7
      have hA7 := hA.below hw7
      clear hO7 hb7 hR6 u12 u16
      have s1 := run_str (P := Try.prog) _ _ _ _ Try.underlying24 Try.underlying5 Try.underlying9 _ n k7 _ hR7 HN.out
      have s2 := run_str (P := Try.prog) _ _ _ _ Try.underlying24 Try.underlying5 Try.underlying9 _ n c _ hA7 HN.out
      go_wp2_with fail
      go_ret
      exact ⟨by simp, hw7⟩
    have HNW := Lib.hid hW
    clear hW
    (with_reducible refine (unwrap_any b A n c w5 HN.out (hA.below hw5) hc (by omega)).mono ?_)
    rintro e x1 ⟨⟨h, -⟩ | ⟨-, rfl⟩, hbx⟩
    · exact absurd h HNW.out
    have hwx := below_call hw5 hbx
    have heq := er_eql 2 2 x1
    go_wp2_with fail
    go_ret
    exact ⟨rfl, hwx⟩
theorem TunnelBackX_walk (src dst : Int) (b : List UInt8) (A : Option Addr) (c : Nat) (w : World) (u0 : (Lit.int .u32 src).wf = true) (u1 : (Lit.int .u32 dst).wf = true) (hc : b.length ≤ c) (hA : RB w A b) (lb : b.length ≤ 1048576) :
    Calls Try.prog 5 #[.int .u32 src, .int .u32 dst, .slice A b.length c] w fun e w' => e = .returned (.bool true) ∧ Below w.heap.size w w' :=
  TunnelBack_walk src dst b A c w (u32w u0) (u32w u1) hc hA lb
end Go.Proofs.Ytjehllgipfanmaa
