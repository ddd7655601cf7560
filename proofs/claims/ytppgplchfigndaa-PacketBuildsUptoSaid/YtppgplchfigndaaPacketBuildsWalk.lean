/- The walk of PacketBuilds. -/
import Derived.Test.YtppgplchfigndaaPacketBackWalk
import Derived.Test.YtppgplchfigndaaRefBuild
import Derived.Test.YtppgplchfigndaaCopy
namespace Go.Proofs.Ytppgplchfigndaa
set_option linter.unusedVariables false
set_option linter.unusedSimpArgs false
open Go.RowKit

set_option maxRecDepth 100000 in
set_option maxHeartbeats 6400000 in
theorem PacketBuilds_walk (p : Pk) (B : Option Addr) (d : Nat) (w : World) (hp : PkD w B d p) (hu : U32s p) (hpl : p.data.length ≤ 1048576) :
    Calls Try.prog 3 #[pkv p B d] w fun x w' => x = .returned (.bool true) ∧ Below w.heap.size w w' := by
  obtain ⟨hp1, hp2⟩ : p.data.length ≤ d ∧ RB w B p.data := id hp
  have hb0 : Below w.heap.size w (w.alloc (.cells #[.int .i64 p.tos, .int .i64 p.id, .int .i64 p.ttl, .int .i64 p.fl.proto, .int .u32 p.fl.src, .int .i64 p.fl.sp, .int .u32 p.fl.dst, .int .i64 p.fl.dp, .int .u32 p.seq, .int .u32 p.ack, .int .i64 p.flags, .int .i64 p.win, .slice B p.data.length d] 28)) := (Below.refl _ w).alloc (Nat.le_refl _) _
  have hX : Blk (w.alloc (.cells #[.int .i64 p.tos, .int .i64 p.id, .int .i64 p.ttl, .int .i64 p.fl.proto, .int .u32 p.fl.src, .int .i64 p.fl.sp, .int .u32 p.fl.dst, .int .i64 p.fl.dp, .int .u32 p.seq, .int .u32 p.ack, .int .i64 p.flags, .int .i64 p.win, .slice B p.data.length d] 28)) w.heap.size 28 (pkc p B d) := Blk.new w _ _
  go_enter Try.func3, Try.ntmps3
  go_wp2_with fail
  generalize (w.alloc (.cells #[.int .i64 p.tos, .int .i64 p.id, .int .i64 p.ttl, .int .i64 p.fl.proto, .int .u32 p.fl.src, .int .i64 p.fl.sp, .int .u32 p.fl.dst, .int .i64 p.fl.dp, .int .u32 p.seq, .int .u32 p.ack, .int .i64 p.flags, .int .i64 p.win, .slice B p.data.length d] 28)) = wa at *
  have hs0 : w.heap.size < wa.heap.size := hX.lt
  (with_reducible refine (alive_any wa).mono ?_)
  rintro x w1 ⟨rfl, hb1⟩
  have hX1 := hX.kept hb1
  have hs1 := hb1.size
  have hw1 := below_call hb0 hb1
  clear hX hb0 hb1
  obtain ⟨c0, c1, c2, c3, c4, c5, c6, c7, c8, c9, c10, c11, c12⟩ := blk13 hX1
  go_upto_region 3 with (fail)
  obtain ⟨cs, hcs⟩ : ∃ cs : Array Value, #[.int .i64 p.tos, .int .i64 p.id, .int .i64 p.ttl, .int .i64 p.fl.proto, .int .u32 p.fl.src, .int .i64 p.fl.sp, .int .u32 p.fl.dst, .int .i64 p.fl.dp, .int .u32 p.seq, .int .u32 p.ack, .int .i64 p.flags, .int .i64 p.win, .slice B p.data.length d] = cs := ⟨_, rfl⟩
  have hsz : cs.size = 13 := by rw [← hcs]; rfl
  have hsl : cs.toList.length = 13 := by rw [← hcs]; rfl
  have hone : ∀ v ∈ cs.toList, v.oneCell' = true := by rw [← hcs]; exact pkc_one p B d
  have hst := store_new (P := Try.prog) w1 cs hsl hone
  have hN : Below w1.heap.size w1 ((w1.alloc (.cells #[.int .i64 0, .int .i64 0, .int .i64 0, .int .i64 0, .int .u32 0, .int .i64 0, .int .u32 0, .int .i64 0, .int .u32 0, .int .u32 0, .int .i64 0, .int .i64 0, .slice none 0 0] 28)).setRow w1.heap.size cs) := below_row (below_al (Below.refl _ w1) _) (Nat.le_refl _)
  have hZ2 : Blk ((w1.alloc (.cells #[.int .i64 0, .int .i64 0, .int .i64 0, .int .i64 0, .int .u32 0, .int .i64 0, .int .u32 0, .int .i64 0, .int .u32 0, .int .u32 0, .int .i64 0, .int .i64 0, .slice none 0 0] 28)).setRow w1.heap.size cs) w1.heap.size 28 (pkc p B d) := by rw [← hcs]; exact (Blk.new w1 28 (pkc pk0 none 0)).row (pkc p B d)
  have hX2 := hX1.kept hN
  have hw2 : Below w.heap.size w ((w1.alloc (.cells #[.int .i64 0, .int .i64 0, .int .i64 0, .int .i64 0, .int .u32 0, .int .i64 0, .int .u32 0, .int .i64 0, .int .u32 0, .int .u32 0, .int .i64 0, .int .i64 0, .slice none 0 0] 28)).setRow w1.heap.size cs) := below_call hw1 hN
  clear hone hN
  generalize hgc : w1.heap.size = gc at *
  go_upto_region 4 with (fail)
  have hs2 : gc < ((w1.alloc (.cells #[.int .i64 0, .int .i64 0, .int .i64 0, .int .i64 0, .int .u32 0, .int .i64 0, .int .u32 0, .int .i64 0, .int .u32 0, .int .u32 0, .int .i64 0, .int .i64 0, .slice none 0 0] 28)).setRow gc cs).heap.size := hZ2.lt
  generalize (w1.alloc (.cells #[.int .i64 0, .int .i64 0, .int .i64 0, .int .i64 0, .int .u32 0, .int .i64 0, .int .u32 0, .int .i64 0, .int .u32 0, .int .u32 0, .int .i64 0, .int .i64 0, .slice none 0 0] 28)).setRow gc cs = w2 at *
  clear hcs hsz hsl hst hX1 hw1 c0 c1 c2 c3 c4 c5 c6 c7 c8 c9 c10 c11 c12
  obtain ⟨c0, c1, c2, c3, c4, c5, c6, c7, c8, c9, c10, c11, c12⟩ := blk13 hX2
  have hR2 := hp2.below hw2
  go_wp2_with fail
  (with_reducible refine (copy_any p.data B d w2 hR2 hp1 (by omega)).mono ?_)
  rintro x w3 ⟨gd, rfl, hgd, hK3, hb3⟩
  have hX3 := hX2.kept hb3
  have hZ3 := hZ2.kept hb3
  have hw3 := below_call hw2 hb3
  have hs3 := hb3.size
  clear hX2 hZ2 hw2 hb3 hR2 c0 c1 c2 c3 c4 c5 c6 c7 c8 c9 c10 c11 c12
  obtain ⟨z0, z1, z2, z3, z4, z5, z6, z7, z8, z9, z10, z11, z12⟩ := blk13 hZ3
  have f12 := hZ3.frozen 12
  go_upto_region 5 with (fail)
  have hZ4 : Blk (w3.setCell ⟨gc, 12, none⟩ (.slice (some ⟨gd, 0, none⟩) p.data.length (p.data.length + 2))) gc 28 (pkc p (some ⟨gd, 0, none⟩) (p.data.length + 2)) := hZ3.set_ 12 _
  have hX4 := hX3.far (p := ⟨gc, 12, none⟩) (show w.heap.size ≠ gc by omega) (.slice (some ⟨gd, 0, none⟩) p.data.length (p.data.length + 2))
  have hK4 := hK3.far (p := ⟨gc, 12, none⟩) (show gd ≠ gc by omega) (.slice (some ⟨gd, 0, none⟩) p.data.length (p.data.length + 2))
  have hw4 : Below w.heap.size w (w3.setCell ⟨gc, 12, none⟩ (.slice (some ⟨gd, 0, none⟩) p.data.length (p.data.length + 2))) := hw3.setCell (show w.heap.size ≤ gc by omega) _
  generalize w3.setCell ⟨gc, 12, none⟩ (.slice (some ⟨gd, 0, none⟩) p.data.length (p.data.length + 2)) = w4 at *
  clear hX3 hZ3 hK3 hw3 f12 z0 z1 z2 z3 z4 z5 z6 z7 z8 z9 z10 z11 z12
  have hd4 : PkD w4 (some ⟨gd, 0, none⟩) (p.data.length + 2) p := ⟨by omega, marked_rb hK4⟩
  obtain ⟨z0, z1, z2, z3, z4, z5, z6, z7, z8, z9, z10, z11, z12⟩ := blk13 hZ4
  by_cases hg : GoodP p
  · have HG := Lib.hid hg
    have HU := Lib.hid hu
    clear hg hu
    go_wp2_with fail
    (with_reducible refine (pbuild_good p (some ⟨gd, 0, none⟩) (p.data.length + 2) w4 hd4 HG.out HU.out).mono ?_)
    rintro x w5 ⟨v5, rfl, hO5, hb5⟩
    obtain ⟨A5, k5, rfl, -, hR5, -⟩ := own_form hO5
    replace hR5 : RB w5 A5 (build p) := hR5
    have hX5 := hX4.kept hb5
    have hZ5 := hZ4.kept hb5
    have hK5 := hK4.kept hb5
    have hw5 := below_call hw4 hb5
    clear hX4 hZ4 hK4 hd4 hw4 hb5 hO5 z0 z1 z2 z3 z4 z5 z6 z7 z8 z9 z10 z11 z12
    obtain ⟨c0, c1, c2, c3, c4, c5, c6, c7, c8, c9, c10, c11, c12⟩ := blk13 hX5
    go_wp2_with fail
    (with_reducible refine (rbuild_good p B d w5 (hp.below hw5) HG.out HU.out).mono ?_)
    rintro x w6 ⟨v6, rfl, hO6, hb6⟩
    obtain ⟨A6, k6, rfl, -, hR6, -⟩ := own_form hO6
    replace hR6 : RB w6 A6 (build p) := hR6
    replace hR5 := hR5.below hb6
    have hX6 := hX5.kept hb6
    have hZ6 := hZ5.kept hb6
    have hK6 := hK5.kept hb6
    have hw6 := below_call hw5 hb6
    clear hX5 hZ5 hK5 hw5 hb6 hO6 c0 c1 c2 c3 c4 c5 c6 c7 c8 c9 c10 c11 c12
    generalize build p = xb at *
    have s1 := run_str (P := Try.prog) _ _ _ _ Try.underlying26 Try.underlying5 Try.underlying9 _ _ k5 _ hR5 rfl
    have s2 := run_str (P := Try.prog) _ _ _ _ Try.underlying26 Try.underlying5 Try.underlying9 _ _ k6 _ hR6 rfl
    go_wp2_with fail
    (with_reducible refine (num_nil w6).mono ?_)
    rintro x w7 ⟨rfl, rfl⟩
    obtain ⟨z0, z1, z2, z3, z4, z5, z6, z7, z8, z9, z10, z11, z12⟩ := blk13 hZ6
    clear s1 s2
    go_wp2_with fail
    (with_reducible refine (pcheck_good p (some ⟨gd, 0, none⟩) (p.data.length + 2) w7 HG.out).mono ?_)
    rintro x w8 ⟨rfl, hb8⟩
    go_wp2_with fail
    (with_reducible refine (num_nil w8).mono ?_)
    rintro x w9 ⟨rfl, rfl⟩
    have hX9 := hX6.kept hb8
    have hZ9 := hZ6.kept hb8
    have hK9 := hK6.kept hb8
    have hw9 := below_call hw6 hb8
    clear z0 z1 z2 z3 z4 z5 z6 z7 z8 z9 z10 z11 z12
    obtain ⟨c0, c1, c2, c3, c4, c5, c6, c7, c8, c9, c10, c11, c12⟩ := blk13 hX9
    obtain ⟨z0, z1, z2, z3, z4, z5, z6, z7, z8, z9, z10, z11, z12⟩ := blk13 hZ9
    go_wp2_with fail
    (with_reducible refine (kept_any p.data gd B d w9 (hp2.below hw9) hK9 (by omega)).mono ?_)
    rintro x w10 ⟨rfl, hb10⟩
    have hw10 := below_call hw9 hb10
    clear z0 z1 z2 z3 z4 z5 z6 z7 z8 z9 z10 z11 z12 c0 c1 c2 c3 c4 c5 c6 c7 c8 c9 c10 c11 c12
    go_wp2_with fail
    go_ret
    exact ⟨rfl, hw10⟩
  · have HG := Lib.hid hg
    clear hg hu
    go_wp2_with fail
    (with_reducible refine (pbuild_bad p (some ⟨gd, 0, none⟩) (p.data.length + 2) w4 HG.out).mono ?_)
    rintro x w5 ⟨rfl, hb5⟩
    have hX5 := hX4.kept hb5
    have hZ5 := hZ4.kept hb5
    have hK5 := hK4.kept hb5
    have hw5 := below_call hw4 hb5
    clear hX4 hZ4 hK4 hd4 hw4 hb5 z0 z1 z2 z3 z4 z5 z6 z7 z8 z9 z10 z11 z12
    obtain ⟨c0, c1, c2, c3, c4, c5, c6, c7, c8, c9, c10, c11, c12⟩ := blk13 hX5
    go_wp2_with fail
    (with_reducible refine (rbuild_bad p B d w5 HG.out).mono ?_)
    rintro x w6 ⟨rfl, hb6⟩
    have hX6 := hX5.kept hb6
    have hZ6 := hZ5.kept hb6
    have hK6 := hK5.kept hb6
    have hw6 := below_call hw5 hb6
    clear hX5 hZ5 hK5 hw5 hb6 c0 c1 c2 c3 c4 c5 c6 c7 c8 c9 c10 c11 c12
    have hR0 : RB w6 none [] := fun j u hu => by simp at hu
    have s1 := run_str (P := Try.prog) _ _ _ _ Try.underlying26 Try.underlying5 Try.underlying9 none 0 0 [] hR0 rfl
    go_wp2_with fail
    (with_reducible refine (num_er 9 (by omega) w6).mono ?_)
    rintro x w7 ⟨rfl, rfl⟩
    obtain ⟨z0, z1, z2, z3, z4, z5, z6, z7, z8, z9, z10, z11, z12⟩ := blk13 hZ6
    clear s1
    go_wp2_with fail
    (with_reducible refine (pcheck_bad p (some ⟨gd, 0, none⟩) (p.data.length + 2) w7 HG.out).mono ?_)
    rintro x w8 ⟨rfl, hb8⟩
    go_wp2_with fail
    (with_reducible refine (num_er 9 (by omega) w8).mono ?_)
    rintro x w9 ⟨rfl, rfl⟩
    have hX9 := hX6.kept hb8
    have hZ9 := hZ6.kept hb8
    have hK9 := hK6.kept hb8
    have hw9 := below_call hw6 hb8
    clear z0 z1 z2 z3 z4 z5 z6 z7 z8 z9 z10 z11 z12
    obtain ⟨c0, c1, c2, c3, c4, c5, c6, c7, c8, c9, c10, c11, c12⟩ := blk13 hX9
    obtain ⟨z0, z1, z2, z3, z4, z5, z6, z7, z8, z9, z10, z11, z12⟩ := blk13 hZ9
    go_wp2_with fail
    (with_reducible refine (kept_any p.data gd B d w9 (hp2.below hw9) hK9 (by omega)).mono ?_)
    rintro x w10 ⟨rfl, hb10⟩
    have hw10 := below_call hw9 hb10
    clear z0 z1 z2 z3 z4 z5 z6 z7 z8 z9 z10 z11 z12 c0 c1 c2 c3 c4 c5 c6 c7 c8 c9 c10 c11 c12
    go_wp2_with fail
    go_ret
    exact ⟨rfl, hw10⟩
theorem PacketBuildsX_walk {H : Type} {da : DataW H} (p : Pk) (v : Value) (w : World) (o : PktIs w v da p) (b0 : Rows.uptoBulk da ≤ 1048576) :
    Calls Try.prog 3 #[v] w fun e w' => e = .returned (.bool true) ∧ Below w.heap.size w w' := by
  obtain ⟨B0, e0', rfl, h1, h2, h3⟩ := o
  exact PacketBuilds_walk p B0 e0' w h1 h2 (by have := h1.1; omega)
end Go.Proofs.Ytppgplchfigndaa
