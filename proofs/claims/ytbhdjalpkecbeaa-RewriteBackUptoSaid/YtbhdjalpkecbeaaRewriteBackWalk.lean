/- The walk of RewriteBack. -/
import Derived.Test.YtbhdjalpkecbeaaRwUni
namespace Go.Proofs.Ytbhdjalpkecbeaa
set_option linter.unusedVariables false
set_option linter.unusedSimpArgs false
open Go.RowKit

theorem like_yes (a b : List UInt8) (A B : Option Addr) (n c m d : Nat) (w : World) (hn : a.length = n) (hm : b.length = m) (hA : RB w A a) (hB : RB w B b) (hc : n ≤ c) (hd : m ≤ d) (hn2 : n ≤ 2000000) (hm2 : m ≤ 2000000) (h : LikeP a b) :
    Calls Try.prog 14 #[.slice A n c, .slice B m d] w fun e w' => e = .returned (.bool true) ∧ Below w.heap.size w w' := by
  refine (like_any a b A B n c m d w hn hm hA hB hc hd hn2 hm2).mono ?_
  rintro e w' ⟨r, rfl, hr, hb⟩
  rw [hr.out.2 h]
  exact ⟨rfl, hb⟩
theorem like_not (a b : List UInt8) (A B : Option Addr) (n c m d : Nat) (w : World) (hn : a.length = n) (hm : b.length = m) (hA : RB w A a) (hB : RB w B b) (hc : n ≤ c) (hd : m ≤ d) (hn2 : n ≤ 2000000) (hm2 : m ≤ 2000000) (h : ¬ LikeP a b) :
    Calls Try.prog 14 #[.slice A n c, .slice B m d] w fun e w' => e = .returned (.bool false) ∧ Below w.heap.size w w' := by
  refine (like_any a b A B n c m d w hn hm hA hB hc hd hn2 hm2).mono ?_
  rintro e w' ⟨r, rfl, hr, hb⟩
  cases r with
  | true => exact absurd (hr.out.1 rfl) h
  | false => exact ⟨rfl, hb⟩
theorem setSrc_own (q : Pk) (a port : Int) : setSrc (setSrc q a port) q.fl.src q.fl.sp = q := rfl
theorem set_swap (q : Pk) (a port b qp : Int) : setSrc (setDst q b qp) a port = setDst (setSrc q a port) b qp := rfl
theorem set_fl (q : Pk) (a port : Int) : setFl q ⟨q.fl.proto, a, port, q.fl.src, q.fl.sp⟩ = setDst (setSrc q a port) q.fl.src q.fl.sp := rfl
theorem like_src {b c : List UInt8} {q : Pk} {a port : Int} (h : IsPk b q) (h' : IsPk c (setSrc q a port)) : LikeP b c ∧ LikeP c b := ⟨⟨q, _, h, h', rfl, rfl⟩, ⟨_, q, h', h, rfl, rfl⟩⟩
set_option maxRecDepth 100000 in
set_option maxHeartbeats 12800000 in
theorem RewriteBack_walk (l : List UInt8) (B : Option Addr) (c : Nat) (xa xp : Int) (f : Fl) (w : World) (hc : l.length ≤ c) (hB : RB w B l) (hbl : l.length ≤ 1048576) (hxa : 0 ≤ xa ∧ xa ≤ 4294967295) :
    Calls Try.prog 8 #[.agg #[.slice B l.length c, .int .u32 xa, .int .i64 xp, .int .i64 f.proto, .int .u32 f.src, .int .i64 f.sp, .int .u32 f.dst, .int .i64 f.dp]] w fun e w' => e = .returned (.bool true) ∧ Below w.heap.size w w' := by
  have HXA := Lib.hid hxa
  clear hxa
  have hb0 : Below w.heap.size w (w.alloc (.cells #[.slice B l.length c, .int .u32 xa, .int .i64 xp, .int .i64 f.proto, .int .u32 f.src, .int .i64 f.sp, .int .u32 f.dst, .int .i64 f.dp] 28)) := (Below.refl _ w).alloc (Nat.le_refl _) _
  have hX : Blk (w.alloc (.cells #[.slice B l.length c, .int .u32 xa, .int .i64 xp, .int .i64 f.proto, .int .u32 f.src, .int .i64 f.sp, .int .u32 f.dst, .int .i64 f.dp] 28)) w.heap.size 28 [.slice B l.length c, .int .u32 xa, .int .i64 xp, .int .i64 f.proto, .int .u32 f.src, .int .i64 f.sp, .int .u32 f.dst, .int .i64 f.dp] := Blk.new w _ _
  go_enter Try.func8, Try.ntmps8
  go_wp2_with fail
  generalize (w.alloc (.cells #[.slice B l.length c, .int .u32 xa, .int .i64 xp, .int .i64 f.proto, .int .u32 f.src, .int .i64 f.sp, .int .u32 f.dst, .int .i64 f.dp] 28)) = wa at *
  have hsa := hb0.size
  (with_reducible refine (alive_any wa).mono ?_)
  rintro e w1 ⟨rfl, hb1⟩
  have d0 := below_call hb0 hb1
  have hs1 := hb1.size
  replace hX := hX.kept hb1
  clear hb0 hb1
  obtain ⟨n, hn⟩ : ∃ n, n = l.length := ⟨_, rfl⟩
  have HN := Lib.hid hn.symm
  rw [← hn] at hX hc hbl ⊢
  clear hn
  obtain ⟨c0, c1, c2, c3, c4, c5, c6, c7⟩ := blk8 hX
  go_wp2_with fail
  (with_reducible refine (rparse_c l B n c w1 HN.out (hB.below d0) hc (by omega)).mono ?_)
  rintro e w2 ⟨q, B1, d1, E1, rfl, hpd, -, hcp, hb⟩
  replace d0 := below_call d0 hb
  replace hX := hX.kept hb
  have hs2 := hb.size
  clear hb hpd c0 c1 c2 c3 c4 c5 c6 c7
  obtain ⟨cs, hcs⟩ : ∃ cs : Array Value, #[.int .i64 q.tos, .int .i64 q.id, .int .i64 q.ttl, .int .i64 q.fl.proto, .int .u32 q.fl.src, .int .i64 q.fl.sp, .int .u32 q.fl.dst, .int .i64 q.fl.dp, .int .u32 q.seq, .int .u32 q.ack, .int .i64 q.flags, .int .i64 q.win, .slice B1 q.data.length d1] = cs := ⟨_, rfl⟩
  have hsz : cs.size = 13 := by rw [← hcs]; rfl
  have hsl : cs.toList.length = 13 := by rw [← hcs]; rfl
  have hone : ∀ v ∈ cs.toList, v.oneCell' = true := by rw [← hcs]; exact pkc_one q B1 d1
  have hst := store_new (P := Try.prog) w2 cs hsl hone
  have hN : Below w2.heap.size w2 ((w2.alloc (.cells #[.int .i64 0, .int .i64 0, .int .i64 0, .int .i64 0, .int .u32 0, .int .i64 0, .int .u32 0, .int .i64 0, .int .u32 0, .int .u32 0, .int .i64 0, .int .i64 0, .slice none 0 0] 52)).setRow w2.heap.size cs) := below_row (below_al (Below.refl _ w2) _) (Nat.le_refl _)
  have hP : Blk ((w2.alloc (.cells #[.int .i64 0, .int .i64 0, .int .i64 0, .int .i64 0, .int .u32 0, .int .i64 0, .int .u32 0, .int .i64 0, .int .u32 0, .int .u32 0, .int .i64 0, .int .i64 0, .slice none 0 0] 52)).setRow w2.heap.size cs) w2.heap.size 52 (pkc q B1 d1) := by rw [← hcs]; exact (Blk.new w2 52 (pkc pk0 none 0)).row (pkc q B1 d1)
  replace d0 := below_call d0 hN
  replace hX := hX.kept hN
  clear hone hN
  generalize hga : w2.heap.size = g2 at *
  go_upto_region 5 with (fail)
  generalize (w2.alloc (.cells #[.int .i64 0, .int .i64 0, .int .i64 0, .int .i64 0, .int .u32 0, .int .i64 0, .int .u32 0, .int .i64 0, .int .u32 0, .int .u32 0, .int .i64 0, .int .i64 0, .slice none 0 0] 52)).setRow g2 cs = w3 at *
  clear hcs hsz hsl hst
  obtain ⟨c0, c1, c2, c3, c4, c5, c6, c7⟩ := blk8 hX
  rcases hcp.out with ⟨hq, rfl⟩ | ⟨hno, rfl⟩
  rotate_left
  · have HNL : Hid (¬ LikeP l l) := by rintro ⟨p, -, hp, -⟩; exact hno p hp
    clear hno hcp hP
    go_wp2_with fail
    (with_reducible refine (like_not l l B B n c n c w3 HN.out HN.out (hB.below d0) (hB.below d0) hc hc (by omega) (by omega) HNL.out).mono ?_)
    rintro e w4 ⟨rfl, hb⟩
    have hw := below_call d0 hb
    clear c0 c1 c2 c3 c4 c5 c6 c7
    go_wp2_with fail
    go_ret
    exact ⟨rfl, hw⟩
  have HQ := Lib.hid hq
  clear hq hcp
  have hn15 : n ≤ 1500 := by have := (isPk_shape HQ.out).2.1; rw [HN.out] at this; exact this
  by_cases hpt : xp < 0 ∨ 65535 < xp
  · have HPT := Lib.hid hpt
    go_wp2_with fail
    (with_reducible refine (source_port l q B n c xa xp w3 HN.out (hB.below d0) hc HQ.out HPT.out).mono ?_)
    rintro e w4 ⟨rfl, hb⟩
    have hw := below_call d0 hb
    replace hX := hX.kept hb
    clear hb hP c0 c1 c2 c3 c4 c5 c6 c7
    obtain ⟨c0, c1, c2, c3, c4, c5, c6, c7⟩ := blk8 hX
    have q1 := er_eql 9 9 w4
    rcases hpt with h | h
    · go_wp2_with fail
      go_ret
      exact ⟨rfl, hw⟩
    · have h2 : decide (xp < 0) = false := by simp; omega
      go_wp2_with fail
      go_ret
      exact ⟨rfl, hw⟩
  have HPT : Hid (0 ≤ xp ∧ xp ≤ 65535) := by show _ ∧ _; omega
  clear hpt
  have HU := Lib.hid HQ.out.2.1
  have HGF := Lib.hid HQ.out.1.1
  have HSS : Hid (0 ≤ q.fl.src ∧ q.fl.src ≤ 4294967295) := HQ.out.2.1.1
  have HSP : Hid (0 ≤ q.fl.sp ∧ q.fl.sp ≤ 65535) := HQ.out.1.1.2.1
  obtain ⟨p0, p1, p2, p3, p4, p5, p6, p7, p8, p9, p10, p11, p12⟩ := blk13 hP
  go_wp2_with fail
  (with_reducible refine (source_n l q B n c xa xp w3 HN.out (hB.below d0) hc HQ.out HXA.out HPT.out).mono ?_)
  rintro e w4 ⟨X1, k1, rfl, hk1, hR1, -, hb⟩
  replace d0 := below_call d0 hb
  replace hX := hX.kept hb
  replace hP := hP.kept hb
  clear hb c0 c1 c2 c3 c4 c5 c6 c7 p0 p1 p2 p3 p4 p5 p6 p7 p8 p9 p10 p11 p12
  have HP1 := Lib.hid (isPk_src HQ.out HXA.out HPT.out)
  have HL1 : Hid ((build (setSrc q xa xp)).length = n) := by show _ = _; rw [set_len_src, HQ.out.2.2, HN.out]
  have HLK := Lib.hid (like_src HQ.out HP1.out)
  obtain ⟨c0, c1, c2, c3, c4, c5, c6, c7⟩ := blk8 hX
  obtain ⟨p0, p1, p2, p3, p4, p5, p6, p7, p8, p9, p10, p11, p12⟩ := blk13 hP
  have d4 : Below w4.heap.size w4 w4 := Below.refl _ _
  go_wp2_with fail
  (with_reducible refine (source_n (build (setSrc q xa xp)) (setSrc q xa xp) X1 n k1 q.fl.src q.fl.sp w4 HL1.out hR1 hk1 HP1.out HSS.out HSP.out).mono ?_)
  rintro e w5 ⟨X2, k2, rfl, hk2, hR2, -, hb⟩
  replace d0 := below_call d0 hb
  replace d4 := below_call d4 hb
  replace hX := hX.kept hb
  replace hP := hP.kept hb
  clear hb c0 c1 c2 c3 c4 c5 c6 c7 p0 p1 p2 p3 p4 p5 p6 p7 p8 p9 p10 p11 p12
  replace hR2 : RB w5 X2 l := by have h := hR2; rw [setSrc_own, HQ.out.2.2] at h; exact h
  obtain ⟨c0, c1, c2, c3, c4, c5, c6, c7⟩ := blk8 hX
  obtain ⟨p0, p1, p2, p3, p4, p5, p6, p7, p8, p9, p10, p11, p12⟩ := blk13 hP
  have d5 : Below w5.heap.size w5 w5 := Below.refl _ _
  have s1 := run_str (P := Try.prog) _ _ _ _ Try.underlying22 Try.underlying5 Try.underlying9 _ n k2 _ hR2 HN.out
  have s2 := run_str (P := Try.prog) _ _ _ _ Try.underlying22 Try.underlying5 Try.underlying9 _ n c _ (hB.below d0) HN.out
  go_wp2_with fail
  (with_reducible refine (like_yes l (build (setSrc q xa xp)) B X1 n c n k1 w5 HN.out HL1.out (hB.below d0) (hR1.below d4) hc hk1 (by omega) (by omega) HLK.out.1).mono ?_)
  rintro e w6 ⟨rfl, hb⟩
  replace d0 := below_call d0 hb
  replace d4 := below_call d4 hb
  replace d5 := below_call d5 hb
  replace hX := hX.kept hb
  replace hP := hP.kept hb
  clear hb c0 c1 c2 c3 c4 c5 c6 c7 p0 p1 p2 p3 p4 p5 p6 p7 p8 p9 p10 p11 p12
  clear s1 s2 hR2
  obtain ⟨c0, c1, c2, c3, c4, c5, c6, c7⟩ := blk8 hX
  obtain ⟨p0, p1, p2, p3, p4, p5, p6, p7, p8, p9, p10, p11, p12⟩ := blk13 hP
  clear d5
  go_wp2_with fail
  (with_reducible refine (like_yes (build (setSrc q xa xp)) l X1 B n k1 n c w6 HL1.out HN.out (hR1.below d4) (hB.below d0) hk1 hc (by omega) (by omega) HLK.out.2).mono ?_)
  rintro e w7 ⟨rfl, hb⟩
  replace d0 := below_call d0 hb
  replace d4 := below_call d4 hb
  replace hX := hX.kept hb
  replace hP := hP.kept hb
  clear hb c0 c1 c2 c3 c4 c5 c6 c7 p0 p1 p2 p3 p4 p5 p6 p7 p8 p9 p10 p11 p12
  obtain ⟨c0, c1, c2, c3, c4, c5, c6, c7⟩ := blk8 hX
  obtain ⟨p0, p1, p2, p3, p4, p5, p6, p7, p8, p9, p10, p11, p12⟩ := blk13 hP
  go_wp2_with fail
  (with_reducible refine (dest_n (build (setSrc q xa xp)) (setSrc q xa xp) X1 n k1 q.fl.src q.fl.sp w7 HL1.out (hR1.below d4) hk1 HP1.out HSS.out HSP.out).mono ?_)
  rintro e w8 ⟨X3, k3, rfl, hk3, hR3, -, hb⟩
  replace d0 := below_call d0 hb
  replace d4 := below_call d4 hb
  replace hX := hX.kept hb
  replace hP := hP.kept hb
  clear hb c0 c1 c2 c3 c4 c5 c6 c7 p0 p1 p2 p3 p4 p5 p6 p7 p8 p9 p10 p11 p12
  obtain ⟨c0, c1, c2, c3, c4, c5, c6, c7⟩ := blk8 hX
  obtain ⟨p0, p1, p2, p3, p4, p5, p6, p7, p8, p9, p10, p11, p12⟩ := blk13 hP
  have d8 : Below w8.heap.size w8 w8 := Below.refl _ _
  clear d4
  go_wp2_with fail
  (with_reducible refine (dest_n l q B n c q.fl.src q.fl.sp w8 HN.out (hB.below d0) hc HQ.out HSS.out HSP.out).mono ?_)
  rintro e w9 ⟨X4, k4, rfl, hk4, hR4, -, hb⟩
  replace d0 := below_call d0 hb
  replace d8 := below_call d8 hb
  replace hX := hX.kept hb
  replace hP := hP.kept hb
  clear hb c0 c1 c2 c3 c4 c5 c6 c7 p0 p1 p2 p3 p4 p5 p6 p7 p8 p9 p10 p11 p12
  have HP4 := Lib.hid (isPk_dst HQ.out HSS.out HSP.out)
  have HL4 : Hid ((build (setDst q q.fl.src q.fl.sp)).length = n) := by show _ = _; rw [set_len_dst, HQ.out.2.2, HN.out]
  obtain ⟨c0, c1, c2, c3, c4, c5, c6, c7⟩ := blk8 hX
  obtain ⟨p0, p1, p2, p3, p4, p5, p6, p7, p8, p9, p10, p11, p12⟩ := blk13 hP
  go_wp2_with fail
  (with_reducible refine (source_n (build (setDst q q.fl.src q.fl.sp)) (setDst q q.fl.src q.fl.sp) X4 n k4 xa xp w9 HL4.out hR4 hk4 HP4.out HXA.out HPT.out).mono ?_)
  rintro e w10 ⟨X5, k5, rfl, hk5, hR5, -, hb⟩
  replace d0 := below_call d0 hb
  replace d8 := below_call d8 hb
  replace hX := hX.kept hb
  replace hP := hP.kept hb
  clear hb c0 c1 c2 c3 c4 c5 c6 c7 p0 p1 p2 p3 p4 p5 p6 p7 p8 p9 p10 p11 p12
  replace hR5 : RB w10 X5 (build (setDst (setSrc q xa xp) q.fl.src q.fl.sp)) := by have h := hR5; rw [set_swap] at h; exact h
  obtain ⟨c0, c1, c2, c3, c4, c5, c6, c7⟩ := blk8 hX
  obtain ⟨p0, p1, p2, p3, p4, p5, p6, p7, p8, p9, p10, p11, p12⟩ := blk13 hP
  have d10 : Below w10.heap.size w10 w10 := Below.refl _ _
  have HGN : Hid (GoodF ⟨q.fl.proto, xa, xp, q.fl.src, q.fl.sp⟩) := ⟨HGF.out.1, HPT.out, HSP.out⟩
  go_wp2_with fail
  (with_reducible refine (both_good l q ⟨q.fl.proto, xa, xp, q.fl.src, q.fl.sp⟩ B n c w10 HN.out (hB.below d0) hc HQ.out HGN.out rfl HXA.out HSS.out).mono ?_)
  rintro e w11 ⟨X6, k6, rfl, hk6, hR6, -, hb⟩
  replace d0 := below_call d0 hb
  replace d8 := below_call d8 hb
  replace d10 := below_call d10 hb
  replace hX := hX.kept hb
  replace hP := hP.kept hb
  clear hb c0 c1 c2 c3 c4 c5 c6 c7 p0 p1 p2 p3 p4 p5 p6 p7 p8 p9 p10 p11 p12
  replace hR6 : RB w11 X6 (build (setDst (setSrc q xa xp) q.fl.src q.fl.sp)) := by have h := hR6; rw [set_fl] at h; exact h
  obtain ⟨c0, c1, c2, c3, c4, c5, c6, c7⟩ := blk8 hX
  obtain ⟨p0, p1, p2, p3, p4, p5, p6, p7, p8, p9, p10, p11, p12⟩ := blk13 hP
  have HLZ : Hid ((build (setDst (setSrc q xa xp) q.fl.src q.fl.sp)).length = n) := by show _ = _; rw [set_len_dst, HL1.out]
  generalize build (setDst (setSrc q xa xp) q.fl.src q.fl.sp) = wq at *
  have s1 := run_str (P := Try.prog) _ _ _ _ Try.underlying22 Try.underlying5 Try.underlying9 _ n k3 _ (hR3.below d8) HLZ.out
  have s2 := run_str (P := Try.prog) _ _ _ _ Try.underlying22 Try.underlying5 Try.underlying9 _ n k5 _ (hR5.below d10) HLZ.out
  have s3 := run_str (P := Try.prog) _ _ _ _ Try.underlying22 Try.underlying5 Try.underlying9 _ n k6 _ hR6 HLZ.out
  clear hR1 hR3 hR4 hR5 hR6
  go_wp2_with fail
  go_ret
  exact ⟨by simp, d0⟩
theorem RewriteBackX_walk {H : Type} {da : DataW H} (x : Rwn) (v : Value) (w : World) (o : RwIs w v da x) (b : Rows.uptoBulk da ≤ 1048576) :
    Calls Try.prog 8 #[v] w fun e w' => e = .returned (.bool true) ∧ Below w.heap.size w w' := by
  obtain ⟨B, c, rfl, h1, h2, h3, h4, h5, h6⟩ := o
  exact RewriteBack_walk x.l B c x.a x.port x.f w h1 h2 (by omega) h3
end Go.Proofs.Ytbhdjalpkecbeaa
