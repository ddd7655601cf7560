/- The walk of RewriteTwice. -/
import Derived.Test.YtbhdjalpkecbeaaRwOpen
namespace Go.Proofs.Ytbhdjalpkecbeaa
set_option linter.unusedVariables false
set_option linter.unusedSimpArgs false
open Go.RowKit

set_option maxRecDepth 100000 in
set_option maxHeartbeats 6400000 in
theorem RewriteTwice_walk (l : List UInt8) (B : Option Addr) (c : Nat) (xa xp a port : Int) (f : Fl) (w : World) (hc : l.length ≤ c) (hB : RB w B l) (hxa : 0 ≤ xa ∧ xa ≤ 4294967295) (ha : 0 ≤ a ∧ a ≤ 4294967295) :
    Calls Try.prog 4 #[.agg #[.slice B l.length c, .int .u32 xa, .int .i64 xp, .int .i64 f.proto, .int .u32 f.src, .int .i64 f.sp, .int .u32 f.dst, .int .i64 f.dp], .int .u32 a, .int .i64 port] w fun e w' => e = .returned (.bool true) ∧ Below w.heap.size w w' := by
  have hb0 : Below w.heap.size w (w.alloc (.cells #[.slice B l.length c, .int .u32 xa, .int .i64 xp, .int .i64 f.proto, .int .u32 f.src, .int .i64 f.sp, .int .u32 f.dst, .int .i64 f.dp] 28)) := (Below.refl _ w).alloc (Nat.le_refl _) _
  have hX : Blk (w.alloc (.cells #[.slice B l.length c, .int .u32 xa, .int .i64 xp, .int .i64 f.proto, .int .u32 f.src, .int .i64 f.sp, .int .u32 f.dst, .int .i64 f.dp] 28)) w.heap.size 28 [.slice B l.length c, .int .u32 xa, .int .i64 xp, .int .i64 f.proto, .int .u32 f.src, .int .i64 f.sp, .int .u32 f.dst, .int .i64 f.dp] := Blk.new w _ _
  go_enter Try.func4, Try.ntmps4
  go_wp2_with fail
  generalize w.alloc (.cells #[.slice B l.length c, .int .u32 xa, .int .i64 xp, .int .i64 f.proto, .int .u32 f.src, .int .i64 f.sp, .int .u32 f.dst, .int .i64 f.dp] 28) = wa at *
  (with_reducible refine (alive_any wa).mono ?_)
  rintro e w1 ⟨rfl, hb1⟩
  have hw1 := below_call hb0 hb1
  have hX1 := hX.kept hb1
  clear hX hb0 hb1
  obtain ⟨n, hn⟩ : ∃ n, n = l.length := ⟨_, rfl⟩
  have HN := Lib.hid hn.symm
  rw [← hn] at hX1 hc ⊢
  clear hn
  obtain ⟨c0, c1, c2, c3, c4, c5, c6, c7⟩ := blk8 hX1
  have HA := Lib.hid ha
  have HXA := Lib.hid hxa
  clear ha hxa
  by_cases hp : IsPk l (opn l)
  rotate_left
  · have HNO := Lib.hid (fun q (hq : IsPk l q) => hp (isPk_any hq))
    clear hp
    go_wp2_with fail
    (with_reducible refine (dest_no l B n c a port w1 HN.out (hB.below hw1) hc HNO.out).mono ?_)
    rintro e w2 ⟨rfl, hb2⟩
    have hw2 := below_call hw1 hb2
    clear c0 c1 c2 c3 c4 c5 c6 c7
    go_wp2_with fail
    go_ret
    exact ⟨rfl, hw2⟩
  have HP := Lib.hid hp
  clear hp
  generalize opn l = p at *
  by_cases hpt : port < 0 ∨ 65535 < port
  · have HPT := Lib.hid hpt
    clear hpt
    go_wp2_with fail
    (with_reducible refine (dest_port l p B n c a port w1 HN.out (hB.below hw1) hc HP.out HPT.out).mono ?_)
    rintro e w2 ⟨rfl, hb2⟩
    have hw2 := below_call hw1 hb2
    clear c0 c1 c2 c3 c4 c5 c6 c7
    go_wp2_with fail
    go_ret
    exact ⟨rfl, hw2⟩
  have HPT : Hid (0 ≤ port ∧ port ≤ 65535) := by show _ ∧ _; omega
  clear hpt
  go_wp2_with fail
  (with_reducible refine (dest_n l p B n c a port w1 HN.out (hB.below hw1) hc HP.out HA.out HPT.out).mono ?_)
  rintro e w2 ⟨X2, k2, rfl, hk2, hR2, -, hb2⟩
  have hw2 := below_call hw1 hb2
  have hX2 := hX1.kept hb2
  have HP1 := Lib.hid (isPk_dst HP.out HA.out HPT.out)
  have HL1 : Hid ((build (setDst p a port)).length = n) := by show _ = _; rw [set_len_dst, HP.out.2.2, HN.out]
  clear hX1 hb2 c0 c1 c2 c3 c4 c5 c6 c7
  obtain ⟨c0, c1, c2, c3, c4, c5, c6, c7⟩ := blk8 hX2
  by_cases hxt : xp < 0 ∨ 65535 < xp
  · have HXT := Lib.hid hxt
    clear hxt
    go_wp2_with fail
    (with_reducible refine (dest_port (build (setDst p a port)) (setDst p a port) X2 n k2 xa xp w2 HL1.out hR2 hk2 HP1.out HXT.out).mono ?_)
    rintro e w3 ⟨rfl, hb3⟩
    have hw3 := below_call hw2 hb3
    have hX3 := hX2.kept hb3
    clear hX2 hb3 c0 c1 c2 c3 c4 c5 c6 c7
    obtain ⟨c0, c1, c2, c3, c4, c5, c6, c7⟩ := blk8 hX3
    go_wp2_with fail
    (with_reducible refine (dest_port l p B n c xa xp w3 HN.out (hB.below hw3) hc HP.out HXT.out).mono ?_)
    rintro e w4 ⟨rfl, hb4⟩
    have hw4 := below_call hw3 hb4
    clear hX3 hb4 c0 c1 c2 c3 c4 c5 c6 c7
    go_wp2_with fail
    (with_reducible refine (num_er 9 (by omega) w4).mono ?_)
    rintro e w5 ⟨rfl, rfl⟩
    go_wp2_with fail
    (with_reducible refine (num_er 9 (by omega) w5).mono ?_)
    rintro e w6 ⟨rfl, rfl⟩
    have hR0 : RB w6 none [] := fun j u hu => by simp at hu
    have s1 := run_str (P := Try.prog) _ _ _ _ Try.underlying22 Try.underlying5 Try.underlying9 none 0 0 [] hR0 rfl
    go_wp2_with fail
    go_ret
    exact ⟨rfl, hw4⟩
  have HXT : Hid (0 ≤ xp ∧ xp ≤ 65535) := by show _ ∧ _; omega
  clear hxt
  go_wp2_with fail
  (with_reducible refine (dest_n (build (setDst p a port)) (setDst p a port) X2 n k2 xa xp w2 HL1.out hR2 hk2 HP1.out HXA.out HXT.out).mono ?_)
  rintro e w3 ⟨X3, k3, rfl, hk3, hR3, -, hb3⟩
  have hw3 := below_call hw2 hb3
  have hX3 := hX2.kept hb3
  clear hX2 hb3 c0 c1 c2 c3 c4 c5 c6 c7
  obtain ⟨c0, c1, c2, c3, c4, c5, c6, c7⟩ := blk8 hX3
  go_wp2_with fail
  (with_reducible refine (dest_n l p B n c xa xp w3 HN.out (hB.below hw3) hc HP.out HXA.out HXT.out).mono ?_)
  rintro e w4 ⟨X4, k4, rfl, hk4, hR4, -, hb4⟩
  have hw4 := below_call hw3 hb4
  have hR34 := hR3.below hb4
  have HEQ : Hid (setDst (setDst p a port) xa xp = setDst p xa xp) := rfl
  have HL4 : Hid ((build (setDst p xa xp)).length = n) := by show _ = _; rw [set_len_dst, HP.out.2.2, HN.out]
  rw [HEQ.out] at hR34
  clear hX3 hb4 hR3 c0 c1 c2 c3 c4 c5 c6 c7
  generalize build (setDst p xa xp) = wq at *
  go_wp2_with fail
  (with_reducible refine (num_nil w4).mono ?_)
  rintro e w5 ⟨rfl, rfl⟩
  go_wp2_with fail
  (with_reducible refine (num_nil w5).mono ?_)
  rintro e w6 ⟨rfl, rfl⟩
  have s1 := run_str (P := Try.prog) _ _ _ _ Try.underlying22 Try.underlying5 Try.underlying9 _ n k3 _ hR34 HL4.out
  have s2 := run_str (P := Try.prog) _ _ _ _ Try.underlying22 Try.underlying5 Try.underlying9 _ n k4 _ hR4 HL4.out
  go_wp2_with fail
  go_ret
  exact ⟨by simp, hw4⟩
theorem RewriteTwiceX_walk {H : Type} {da : DataW H} (x : Rwn) (v : Value) (a port : Int) (w : World) (o : RwIs w v da x) (_b : Rows.uptoBulk da ≤ 1048576) (u1 : (Lit.int .u32 a).wf = true) (_u2 : (Lit.int .i64 port).wf = true) :
    Calls Try.prog 4 #[v, .int .u32 a, .int .i64 port] w fun e w' => e = .returned (.bool true) ∧ Below w.heap.size w w' := by
  obtain ⟨B, c, rfl, h1, h2, h3, h4, h5, h6⟩ := o
  exact RewriteTwice_walk x.l B c x.a x.port a port x.f w h1 h2 h3 (u32_of_wf u1)
end Go.Proofs.Ytbhdjalpkecbeaa
