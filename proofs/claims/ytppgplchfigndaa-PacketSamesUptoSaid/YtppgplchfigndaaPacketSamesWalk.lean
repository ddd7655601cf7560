/- The walk of PacketSames. -/
import Derived.Test.YtppgplchfigndaaPacketBackWalk
namespace Go.Proofs.Ytppgplchfigndaa
set_option linter.unusedVariables false
set_option linter.unusedSimpArgs false
open Go.RowKit

set_option maxRecDepth 100000 in
set_option maxHeartbeats 6400000 in
theorem PacketSames_walk (p q : Pk) (B C : Option Addr) (d e : Nat) (w : World) (hp : PkD w B d p) (hq : PkD w C e q) (hpl : p.data.length ≤ 1048576) :
    Calls Try.prog 6 #[pkv p B d, pkv q C e] w fun x w' => x = .returned (.bool true) ∧ Below w.heap.size w w' := by
  have hb0 : Below w.heap.size w ((w.alloc (.cells #[.int .i64 p.tos, .int .i64 p.id, .int .i64 p.ttl, .int .i64 p.fl.proto, .int .u32 p.fl.src, .int .i64 p.fl.sp, .int .u32 p.fl.dst, .int .i64 p.fl.dp, .int .u32 p.seq, .int .u32 p.ack, .int .i64 p.flags, .int .i64 p.win, .slice B p.data.length d] 28)).alloc (.cells #[.int .i64 q.tos, .int .i64 q.id, .int .i64 q.ttl, .int .i64 q.fl.proto, .int .u32 q.fl.src, .int .i64 q.fl.sp, .int .u32 q.fl.dst, .int .i64 q.fl.dp, .int .u32 q.seq, .int .u32 q.ack, .int .i64 q.flags, .int .i64 q.win, .slice C q.data.length e] 28)) := ((Below.refl _ w).alloc (Nat.le_refl _) _).alloc (by simp) _
  have hX : Blk ((w.alloc (.cells #[.int .i64 p.tos, .int .i64 p.id, .int .i64 p.ttl, .int .i64 p.fl.proto, .int .u32 p.fl.src, .int .i64 p.fl.sp, .int .u32 p.fl.dst, .int .i64 p.fl.dp, .int .u32 p.seq, .int .u32 p.ack, .int .i64 p.flags, .int .i64 p.win, .slice B p.data.length d] 28)).alloc (.cells #[.int .i64 q.tos, .int .i64 q.id, .int .i64 q.ttl, .int .i64 q.fl.proto, .int .u32 q.fl.src, .int .i64 q.fl.sp, .int .u32 q.fl.dst, .int .i64 q.fl.dp, .int .u32 q.seq, .int .u32 q.ack, .int .i64 q.flags, .int .i64 q.win, .slice C q.data.length e] 28)) w.heap.size 28 (pkc p B d) := (Blk.new w _ _).alloc _
  have hY : Blk ((w.alloc (.cells #[.int .i64 p.tos, .int .i64 p.id, .int .i64 p.ttl, .int .i64 p.fl.proto, .int .u32 p.fl.src, .int .i64 p.fl.sp, .int .u32 p.fl.dst, .int .i64 p.fl.dp, .int .u32 p.seq, .int .u32 p.ack, .int .i64 p.flags, .int .i64 p.win, .slice B p.data.length d] 28)).alloc (.cells #[.int .i64 q.tos, .int .i64 q.id, .int .i64 q.ttl, .int .i64 q.fl.proto, .int .u32 q.fl.src, .int .i64 q.fl.sp, .int .u32 q.fl.dst, .int .i64 q.fl.dp, .int .u32 q.seq, .int .u32 q.ack, .int .i64 q.flags, .int .i64 q.win, .slice C q.data.length e] 28)) (w.heap.size + 1) 28 (pkc q C e) := by
    simpa using Blk.new (w.alloc (.cells #[.int .i64 p.tos, .int .i64 p.id, .int .i64 p.ttl, .int .i64 p.fl.proto, .int .u32 p.fl.src, .int .i64 p.fl.sp, .int .u32 p.fl.dst, .int .i64 p.fl.dp, .int .u32 p.seq, .int .u32 p.ack, .int .i64 p.flags, .int .i64 p.win, .slice B p.data.length d] 28)) 28 (pkc q C e)
  have hpa := hp.below hb0
  have hqa := hq.below hb0
  go_enter Try.func6, Try.ntmps6
  go_wp2_with fail
  generalize ((w.alloc (.cells #[.int .i64 p.tos, .int .i64 p.id, .int .i64 p.ttl, .int .i64 p.fl.proto, .int .u32 p.fl.src, .int .i64 p.fl.sp, .int .u32 p.fl.dst, .int .i64 p.fl.dp, .int .u32 p.seq, .int .u32 p.ack, .int .i64 p.flags, .int .i64 p.win, .slice B p.data.length d] 28)).alloc (.cells #[.int .i64 q.tos, .int .i64 q.id, .int .i64 q.ttl, .int .i64 q.fl.proto, .int .u32 q.fl.src, .int .i64 q.fl.sp, .int .u32 q.fl.dst, .int .i64 q.fl.dp, .int .u32 q.seq, .int .u32 q.ack, .int .i64 q.flags, .int .i64 q.win, .slice C q.data.length e] 28)) = wa at *
  generalize w.heap.size + 1 = gb at *
  generalize hga : w.heap.size = ga at *
  (with_reducible refine (alive_any wa).mono ?_)
  rintro x w1 ⟨rfl, hb1⟩
  have hX1 := hX.kept hb1
  have hY1 := hY.kept hb1
  have hp1 := hpa.below hb1
  have hq1 := hqa.below hb1
  have hs1 := hb1.size
  have hs0 : ga < wa.heap.size := hX.lt
  have hw1 : Below ga w w1 := hb0.trans (hb1.mono (by omega))
  have hgbc : gb < w1.heap.size := hY1.lt
  clear hX hY hpa hqa hb0 hb1
  obtain ⟨c0, c1, c2, c3, c4, c5, c6, c7, c8, c9, c10, c11, c12⟩ := blk13 hX1
  go_upto_region 3 with (fail)
  obtain ⟨cs, hcs⟩ : ∃ cs : Array Value, #[.int .i64 p.tos, .int .i64 p.id, .int .i64 p.ttl, .int .i64 p.fl.proto, .int .u32 p.fl.src, .int .i64 p.fl.sp, .int .u32 p.fl.dst, .int .i64 p.fl.dp, .int .u32 p.seq, .int .u32 p.ack, .int .i64 p.flags, .int .i64 p.win, .slice B p.data.length d] = cs := ⟨_, rfl⟩
  have hsz : cs.size = 13 := by rw [← hcs]; rfl
  have hsl : cs.toList.length = 13 := by rw [← hcs]; rfl
  have hone : ∀ v ∈ cs.toList, v.oneCell' = true := by rw [← hcs]; exact pkc_one p B d
  have hst := store_new (P := Try.prog) w1 cs hsl hone
  have hN : Below w1.heap.size w1 ((w1.alloc (.cells #[.int .i64 0, .int .i64 0, .int .i64 0, .int .i64 0, .int .u32 0, .int .i64 0, .int .u32 0, .int .i64 0, .int .u32 0, .int .u32 0, .int .i64 0, .int .i64 0, .slice none 0 0] 28)).setRow w1.heap.size cs) := below_row (below_al (Below.refl _ w1) _) (Nat.le_refl _)
  have hZ2 : Blk ((w1.alloc (.cells #[.int .i64 0, .int .i64 0, .int .i64 0, .int .i64 0, .int .u32 0, .int .i64 0, .int .u32 0, .int .i64 0, .int .u32 0, .int .u32 0, .int .i64 0, .int .i64 0, .slice none 0 0] 28)).setRow w1.heap.size cs) w1.heap.size 28 (pkc p B d) := by rw [← hcs]; exact (Blk.new w1 28 (pkc pk0 none 0)).row (pkc p B d)
  have hX2 := hX1.kept hN
  have hY2 := hY1.kept hN
  have hp2 := hp1.below hN
  have hq2 := hq1.below hN
  have hw2 : Below ga w ((w1.alloc (.cells #[.int .i64 0, .int .i64 0, .int .i64 0, .int .i64 0, .int .u32 0, .int .i64 0, .int .u32 0, .int .i64 0, .int .u32 0, .int .u32 0, .int .i64 0, .int .i64 0, .slice none 0 0] 28)).setRow w1.heap.size cs) := hw1.trans (hN.mono (by omega))
  clear hone hN
  generalize hgc : w1.heap.size = gc at *
  go_upto_region 4 with (fail)
  have hs2 : gc < ((w1.alloc (.cells #[.int .i64 0, .int .i64 0, .int .i64 0, .int .i64 0, .int .u32 0, .int .i64 0, .int .u32 0, .int .i64 0, .int .u32 0, .int .u32 0, .int .i64 0, .int .i64 0, .slice none 0 0] 28)).setRow gc cs).heap.size := hZ2.lt
  generalize (w1.alloc (.cells #[.int .i64 0, .int .i64 0, .int .i64 0, .int .i64 0, .int .u32 0, .int .i64 0, .int .u32 0, .int .i64 0, .int .u32 0, .int .u32 0, .int .i64 0, .int .i64 0, .slice none 0 0] 28)).setRow gc cs = w2 at *
  clear hcs hsz hsl hst hX1 hY1 hp1 hq1 c0 c1 c2 c3 c4 c5 c6 c7 c8 c9 c10 c11 c12
  obtain ⟨i0, hi, hz0, hz1, hz2⟩ := info_parts info_u8
  have c12 := (blk13 hX2).2.2.2.2.2.2.2.2.2.2.2.2
  have hb4 : Below w2.heap.size w2 (w2.alloc (.cells #[] 5)) := (Below.refl _ w2).alloc (Nat.le_refl _) _
  have hR4 := hp2.2.below hb4
  obtain ⟨n, hn⟩ : ∃ n, n = p.data.length := ⟨_, rfl⟩
  have HN := Lib.hid hn.symm
  rw [← hn] at c12 hpl
  clear hn
  have d12 := cell_keep hb4 c12
  go_wp2_with (at_builtin; refine wl_app _ rfl (.tmp 9) (.tmp 11) 26 rfl w2.heap.size 5 i0 (.int .u8 0) 1 1 Try.underlying26 hi hz0 hz1 hz2 rfl (by omega) _ _ _ rfl (own_empty w2 w2.heap.size 5 w2.heap.size rfl (Nat.le_refl _)) B n d (p.data.map bv) rfl (by simp [HN.out]) hR4 (one_bv p.data) (by unfold maxLen; omega) (by omega) (by simp) ?_)
  intro v5 w5 hO5 hg5 _
  have hb5 : Below w2.heap.size w2 w5 := hb4.grown hg5 (by simp) (fun g hg => by simp [Value.ownBlock] at hg; omega)
  have hX5 := hX2.kept hb5
  have hY5 := hY2.kept hb5
  have hZ5 := hZ2.kept hb5
  have hp5 := hp2.below hb5
  have hq5 := hq2.below hb5
  have hs5 := hb5.size
  have hw5 : Below ga w w5 := hw2.trans (hb5.mono (by omega))
  obtain ⟨R, k, rfl, -, -, -⟩ := own_form hO5
  clear hX2 hY2 hZ2 hp2 hq2 hw2 c12 d12 hg5 hb4 hR4
  have f12 := hZ5.frozen 12
  have z12 := (blk13 hZ5).2.2.2.2.2.2.2.2.2.2.2.2
  have HO6 := Lib.hid (own_set (i := 12) (u := .slice R n k) (show gc < w2.heap.size from hs2) hO5)
  clear hO5
  go_upto_region 5 with (fail)
  have hZ6 : Blk (w5.setCell ⟨gc, 12, none⟩ (.slice R n k)) gc 28 (pkc p R k) := by
    rw [← HN.out]
    exact hZ5.set_ 12 _
  have hX6 := hX5.far (p := ⟨gc, 12, none⟩) (show ga ≠ gc by omega) (.slice R n k)
  have hY6 := hY5.far (p := ⟨gc, 12, none⟩) (show gb ≠ gc by omega) (.slice R n k)
  have hw6 : Below ga w (w5.setCell ⟨gc, 12, none⟩ (.slice R n k)) := hw5.setCell (show ga ≤ gc by omega) _
  have hw6' : Below w.heap.size w (w5.setCell ⟨gc, 12, none⟩ (.slice R n k)) := by rw [hga]; exact hw6
  have hp6 := hp.below hw6'
  have hq6 := hq.below hw6'
  have hr6 : PkD (w5.setCell ⟨gc, 12, none⟩ (.slice R n k)) R k p := by
    have h : PkO w2.heap.size (w5.setCell ⟨gc, 12, none⟩ (.slice R n k)) R k p := by
      unfold PkO
      rw [HN.out]
      exact HO6.out
    exact h.pkd
  generalize w5.setCell ⟨gc, 12, none⟩ (.slice R n k) = w6 at *
  clear hX5 hY5 hZ5 hp5 hq5 hb5 hw5 f12 z12 HO6 hw6 hpl HN hp hq
  obtain ⟨x0, x1, x2, x3, x4, x5, x6, x7, x8, x9, x10, x11, x12⟩ := blk13 hX6
  obtain ⟨y0, y1, y2, y3, y4, y5, y6, y7, y8, y9, y10, y11, y12⟩ := blk13 hY6
  obtain ⟨z0, z1, z2, z3, z4, z5, z6, z7, z8, z9, z10, z11, z12⟩ := blk13 hZ6
  have hcur : Below w6.heap.size w6 w6.drew := Below.drew (Below.refl _ w6)
  have hss := sameP_self p
  generalize hsq : sameP p q = s at *
  have HS := Lib.hid hss
  have HQ := Lib.hid hsq
  clear hss hsq hX6 hY6 hZ6
  have hss2 : (s == s) = true := by simp
  go_region_held3 (fun w' => w'.cell? ⟨ga, 0, none⟩ = some (.int .i64 p.tos) ∧ w'.cell? ⟨ga, 1, none⟩ = some (.int .i64 p.id) ∧ w'.cell? ⟨ga, 2, none⟩ = some (.int .i64 p.ttl) ∧ w'.cell? ⟨ga, 3, none⟩ = some (.int .i64 p.fl.proto) ∧ w'.cell? ⟨ga, 4, none⟩ = some (.int .u32 p.fl.src) ∧ w'.cell? ⟨ga, 5, none⟩ = some (.int .i64 p.fl.sp) ∧ w'.cell? ⟨ga, 6, none⟩ = some (.int .u32 p.fl.dst) ∧ w'.cell? ⟨ga, 7, none⟩ = some (.int .i64 p.fl.dp) ∧ w'.cell? ⟨ga, 8, none⟩ = some (.int .u32 p.seq) ∧ w'.cell? ⟨ga, 9, none⟩ = some (.int .u32 p.ack) ∧ w'.cell? ⟨ga, 10, none⟩ = some (.int .i64 p.flags) ∧ w'.cell? ⟨ga, 11, none⟩ = some (.int .i64 p.win) ∧ w'.cell? ⟨ga, 12, none⟩ = some (.slice B p.data.length d) ∧ w'.cell? ⟨gb, 0, none⟩ = some (.int .i64 q.tos) ∧ w'.cell? ⟨gb, 1, none⟩ = some (.int .i64 q.id) ∧ w'.cell? ⟨gb, 2, none⟩ = some (.int .i64 q.ttl) ∧ w'.cell? ⟨gb, 3, none⟩ = some (.int .i64 q.fl.proto) ∧ w'.cell? ⟨gb, 4, none⟩ = some (.int .u32 q.fl.src) ∧ w'.cell? ⟨gb, 5, none⟩ = some (.int .i64 q.fl.sp) ∧ w'.cell? ⟨gb, 6, none⟩ = some (.int .u32 q.fl.dst) ∧ w'.cell? ⟨gb, 7, none⟩ = some (.int .i64 q.fl.dp) ∧ w'.cell? ⟨gb, 8, none⟩ = some (.int .u32 q.seq) ∧ w'.cell? ⟨gb, 9, none⟩ = some (.int .u32 q.ack) ∧ w'.cell? ⟨gb, 10, none⟩ = some (.int .i64 q.flags) ∧ w'.cell? ⟨gb, 11, none⟩ = some (.int .i64 q.win) ∧ w'.cell? ⟨gb, 12, none⟩ = some (.slice C q.data.length e) ∧ w'.cell? ⟨gc, 0, none⟩ = some (.int .i64 p.tos) ∧ w'.cell? ⟨gc, 1, none⟩ = some (.int .i64 p.id) ∧ w'.cell? ⟨gc, 2, none⟩ = some (.int .i64 p.ttl) ∧ w'.cell? ⟨gc, 3, none⟩ = some (.int .i64 p.fl.proto) ∧ w'.cell? ⟨gc, 4, none⟩ = some (.int .u32 p.fl.src) ∧ w'.cell? ⟨gc, 5, none⟩ = some (.int .i64 p.fl.sp) ∧ w'.cell? ⟨gc, 6, none⟩ = some (.int .u32 p.fl.dst) ∧ w'.cell? ⟨gc, 7, none⟩ = some (.int .i64 p.fl.dp) ∧ w'.cell? ⟨gc, 8, none⟩ = some (.int .u32 p.seq) ∧ w'.cell? ⟨gc, 9, none⟩ = some (.int .u32 p.ack) ∧ w'.cell? ⟨gc, 10, none⟩ = some (.int .i64 p.flags) ∧ w'.cell? ⟨gc, 11, none⟩ = some (.int .i64 p.win) ∧ w'.cell? ⟨gc, 12, none⟩ = some (.slice R p.data.length k))
    (with_reducible exact ⟨cell_keep hcur x0, cell_keep hcur x1, cell_keep hcur x2, cell_keep hcur x3, cell_keep hcur x4, cell_keep hcur x5, cell_keep hcur x6, cell_keep hcur x7, cell_keep hcur x8, cell_keep hcur x9, cell_keep hcur x10, cell_keep hcur x11, cell_keep hcur x12, cell_keep hcur y0, cell_keep hcur y1, cell_keep hcur y2, cell_keep hcur y3, cell_keep hcur y4, cell_keep hcur y5, cell_keep hcur y6, cell_keep hcur y7, cell_keep hcur y8, cell_keep hcur y9, cell_keep hcur y10, cell_keep hcur y11, cell_keep hcur y12, cell_keep hcur z0, cell_keep hcur z1, cell_keep hcur z2, cell_keep hcur z3, cell_keep hcur z4, cell_keep hcur z5, cell_keep hcur z6, cell_keep hcur z7, cell_keep hcur z8, cell_keep hcur z9, cell_keep hcur z10, cell_keep hcur z11, cell_keep hcur z12⟩)
    (first
      | (go_at_call 17; (with_reducible refine (psame_any p q B C d e _ (hp6.below hcur) (hq6.below hcur)).mono ?_); rintro e w6 ⟨rfl, hb6⟩; rw [HQ.out]; replace hcur := below_call hcur hb6)
      | (go_at_call 19; (with_reducible refine (rpsame_any p q B C d e _ (hp6.below hcur) (hq6.below hcur)).mono ?_); rintro e w6 ⟨rfl, hb6⟩; rw [HQ.out]; replace hcur := below_call hcur hb6)
      | (go_at_call 17; (with_reducible refine (psame_any p p B R d k _ (hp6.below hcur) (hr6.below hcur)).mono ?_); rintro e w6 ⟨rfl, hb6⟩; rw [HS.out]; replace hcur := below_call hcur hb6))
  all_goals
    go_wp2_with fail
    go_ret
    exact ⟨rfl, below_call hw6' hcur⟩
theorem PacketSamesX_walk {H : Type} {da db : DataW H} (p : Pk) (v : Value) (q : Pk) (v2 : Value) (w : World) (o : PktIs w v da p) (b0 : Rows.uptoBulk da ≤ 1048576) (o2 : PktIs w v2 db q) (b2 : Rows.uptoBulk db ≤ 1048576) :
    Calls Try.prog 6 #[v, v2] w fun e w' => e = .returned (.bool true) ∧ Below w.heap.size w w' := by
  obtain ⟨B0, e0', rfl, h1, h2, h3⟩ := o
  obtain ⟨B1, e1', rfl, g1, g2, g3⟩ := o2
  exact PacketSames_walk p q B0 B1 e0' e1' w h1 g1 (by have := h1.1; omega)
end Go.Proofs.Ytppgplchfigndaa
