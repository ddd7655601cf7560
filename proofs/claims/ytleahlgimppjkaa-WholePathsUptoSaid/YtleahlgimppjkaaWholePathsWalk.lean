/- The walk of WholePaths. -/
import Derived.Test.YtleahlgimppjkaaPaths
namespace Go.Proofs.Ytleahlgimppjkaa
set_option linter.unusedVariables false
set_option linter.unusedSimpArgs false
open Go.Joins Go.ChangeShapes Go.WideShapes Go.RowKit Go.Deep

theorem blk19 {w : World} {g : Nat} {t : TypeId} {a0 a1 a2 a3 a4 a5 a6 a7 a8 a9 a10 a11 a12 a13 a14 a15 a16 a17 a18 : Value} (h : Blk w g t [a0, a1, a2, a3, a4, a5, a6, a7, a8, a9, a10, a11, a12, a13, a14, a15, a16, a17, a18]) :
    w.cell? ⟨g, 0, none⟩ = some a0 ∧ w.cell? ⟨g, 1, none⟩ = some a1 ∧ w.cell? ⟨g, 2, none⟩ = some a2 ∧ w.cell? ⟨g, 3, none⟩ = some a3 ∧ w.cell? ⟨g, 4, none⟩ = some a4 ∧ w.cell? ⟨g, 5, none⟩ = some a5 ∧ w.cell? ⟨g, 6, none⟩ = some a6 ∧ w.cell? ⟨g, 7, none⟩ = some a7 ∧ w.cell? ⟨g, 8, none⟩ = some a8 ∧ w.cell? ⟨g, 9, none⟩ = some a9 ∧ w.cell? ⟨g, 10, none⟩ = some a10 ∧ w.cell? ⟨g, 11, none⟩ = some a11 ∧ w.cell? ⟨g, 12, none⟩ = some a12 ∧ w.cell? ⟨g, 13, none⟩ = some a13 ∧ w.cell? ⟨g, 14, none⟩ = some a14 ∧ w.cell? ⟨g, 15, none⟩ = some a15 ∧ w.cell? ⟨g, 16, none⟩ = some a16 ∧ w.cell? ⟨g, 17, none⟩ = some a17 ∧ w.cell? ⟨g, 18, none⟩ = some a18 :=
  ⟨h.cell 0, h.cell 1, h.cell 2, h.cell 3, h.cell 4, h.cell 5, h.cell 6, h.cell 7, h.cell 8, h.cell 9, h.cell 10, h.cell 11, h.cell 12, h.cell 13, h.cell 14, h.cell 15, h.cell 16, h.cell 17, h.cell 18⟩
theorem keepTen {wa w' : World} {g h : Nat} {v0 v1 v2 v3 v4 u0 u1 u2 u3 u4 : Value} (hb : Below wa.heap.size wa w')
    (y : wa.cell? ⟨g, 0, none⟩ = some v0 ∧ wa.cell? ⟨g, 1, none⟩ = some v1 ∧ wa.cell? ⟨g, 2, none⟩ = some v2 ∧ wa.cell? ⟨g, 3, none⟩ = some v3 ∧ wa.cell? ⟨g, 4, none⟩ = some v4 ∧ wa.cell? ⟨h, 3, none⟩ = some u0 ∧ wa.cell? ⟨h, 4, none⟩ = some u1 ∧ wa.cell? ⟨h, 5, none⟩ = some u2 ∧ wa.cell? ⟨h, 6, none⟩ = some u3 ∧ wa.cell? ⟨h, 7, none⟩ = some u4) :
    w'.cell? ⟨g, 0, none⟩ = some v0 ∧ w'.cell? ⟨g, 1, none⟩ = some v1 ∧ w'.cell? ⟨g, 2, none⟩ = some v2 ∧ w'.cell? ⟨g, 3, none⟩ = some v3 ∧ w'.cell? ⟨g, 4, none⟩ = some v4 ∧ w'.cell? ⟨h, 3, none⟩ = some u0 ∧ w'.cell? ⟨h, 4, none⟩ = some u1 ∧ w'.cell? ⟨h, 5, none⟩ = some u2 ∧ w'.cell? ⟨h, 6, none⟩ = some u3 ∧ w'.cell? ⟨h, 7, none⟩ = some u4 := by
  obtain ⟨y0, y1, y2, y3, y4, y5, y6, y7, y8, y9⟩ := y
  exact ⟨cell_keep hb y0, cell_keep hb y1, cell_keep hb y2, cell_keep hb y3, cell_keep hb y4, cell_keep hb y5, cell_keep hb y6, cell_keep hb y7, cell_keep hb y8, cell_keep hb y9⟩
set_option maxRecDepth 100000 in
set_option maxHeartbeats 25600000 in
theorem WholePaths_walk (p : Pk) (D : Option Addr) (dd : Nat) (v vp dip dpp aa ab : Int) (w : World) (hd : PkD w D dd p) (hu : U32s p) (hv : 0 ≤ v ∧ v ≤ 4294967295) (hdi : 0 ≤ dip ∧ dip ≤ 4294967295) (haa : 0 ≤ aa ∧ aa ≤ 4294967295) (hab : 0 ≤ ab ∧ ab ≤ 4294967295) :
    Calls Try.prog 3 #[.agg #[.int .i64 p.tos, .int .i64 p.id, .int .i64 p.ttl, .int .i64 p.fl.proto, .int .u32 p.fl.src, .int .i64 p.fl.sp, .int .u32 p.fl.dst, .int .i64 p.fl.dp, .int .u32 p.seq, .int .u32 p.ack, .int .i64 p.flags, .int .i64 p.win, .slice D p.data.length dd, .int .u32 v, .int .i64 vp, .int .u32 dip, .int .i64 dpp, .int .u32 aa, .int .u32 ab]] w fun e w' => e = .returned (.bool true) ∧ Below w.heap.size w w' := by
  have HV := Lib.hid hv
  have HDI := Lib.hid hdi
  have HAA := Lib.hid (u32i haa)
  have HAB := Lib.hid (u32i hab)
  have HU := Lib.hid hu
  clear hv hdi haa hab hu
  have hb0 : Below w.heap.size w (w.alloc (.cells #[.int .i64 p.tos, .int .i64 p.id, .int .i64 p.ttl, .int .i64 p.fl.proto, .int .u32 p.fl.src, .int .i64 p.fl.sp, .int .u32 p.fl.dst, .int .i64 p.fl.dp, .int .u32 p.seq, .int .u32 p.ack, .int .i64 p.flags, .int .i64 p.win, .slice D p.data.length dd, .int .u32 v, .int .i64 vp, .int .u32 dip, .int .i64 dpp, .int .u32 aa, .int .u32 ab] 30)) := (Below.refl _ w).alloc (Nat.le_refl _) _
  have hX : Blk (w.alloc (.cells #[.int .i64 p.tos, .int .i64 p.id, .int .i64 p.ttl, .int .i64 p.fl.proto, .int .u32 p.fl.src, .int .i64 p.fl.sp, .int .u32 p.fl.dst, .int .i64 p.fl.dp, .int .u32 p.seq, .int .u32 p.ack, .int .i64 p.flags, .int .i64 p.win, .slice D p.data.length dd, .int .u32 v, .int .i64 vp, .int .u32 dip, .int .i64 dpp, .int .u32 aa, .int .u32 ab] 30)) w.heap.size 30 [.int .i64 p.tos, .int .i64 p.id, .int .i64 p.ttl, .int .i64 p.fl.proto, .int .u32 p.fl.src, .int .i64 p.fl.sp, .int .u32 p.fl.dst, .int .i64 p.fl.dp, .int .u32 p.seq, .int .u32 p.ack, .int .i64 p.flags, .int .i64 p.win, .slice D p.data.length dd, .int .u32 v, .int .i64 vp, .int .u32 dip, .int .i64 dpp, .int .u32 aa, .int .u32 ab] := Blk.new w _ _
  go_enter Try.func3, Try.ntmps3
  go_wp2_with fail
  generalize (w.alloc (.cells #[.int .i64 p.tos, .int .i64 p.id, .int .i64 p.ttl, .int .i64 p.fl.proto, .int .u32 p.fl.src, .int .i64 p.fl.sp, .int .u32 p.fl.dst, .int .i64 p.fl.dp, .int .u32 p.seq, .int .u32 p.ack, .int .i64 p.flags, .int .i64 p.win, .slice D p.data.length dd, .int .u32 v, .int .i64 vp, .int .u32 dip, .int .i64 dpp, .int .u32 aa, .int .u32 ab] 30)) = wa at *
  (with_reducible refine (paths_any wa).mono ?_)
  rintro e w1 ⟨rfl, hb1⟩
  have d0 := below_call hb0 hb1
  replace hX := hX.kept hb1
  clear hb0 hb1
  obtain ⟨c0, c1, c2, c3, c4, c5, c6, c7, c8, c9, c10, c11, c12, c13, c14, c15, c16, c17, c18⟩ := blk19 hX
  by_cases hg : GoodP p
  rotate_left
  · go_wp2_with fail
    (with_reducible refine (rbuild_bad p D dd w1 hg).mono ?_)
    rintro e w2 ⟨rfl, hb⟩
    have hw := below_call d0 hb
    clear c0 c1 c2 c3 c4 c5 c6 c7 c8 c9 c10 c11 c12 c13 c14 c15 c16 c17 c18 hg
    go_wp2_with fail
    go_ret
    exact ⟨rfl, hw⟩
  have HG := Lib.hid hg
  clear hg
  go_wp2_with fail
  (with_reducible refine (rbuild_n p D dd w1 (hd.below d0) HG.out HU.out).mono ?_)
  rintro e w2 ⟨X0, k0, rfl, hk0, hR0, -, hb⟩
  replace d0 := below_call d0 hb
  replace hX := hX.kept hb
  clear hb c0 c1 c2 c3 c4 c5 c6 c7 c8 c9 c10 c11 c12 c13 c14 c15 c16 c17 c18
  obtain ⟨c0, c1, c2, c3, c4, c5, c6, c7, c8, c9, c10, c11, c12, c13, c14, c15, c16, c17, c18⟩ := blk19 hX
  have HI : Hid (IsPk (build p) p) := ⟨HG.out, HU.out, rfl⟩
  obtain ⟨n, hn⟩ : ∃ n, (build p).length = n := ⟨_, rfl⟩
  have HN := Lib.hid hn
  rw [hn] at hk0 ⊢
  clear hn
  by_cases x0 : 1480 < n
  · have y0 : (1480 : Int) < (n : Int) := by omega
    go_wp2_with fail
    go_ret
    exact ⟨rfl, d0⟩
  have z0 : decide ((1480 : Int) < (n : Int)) = false := by simp; omega
  by_cases x1 : vp < 0
  · have y1 : vp < 0 := by omega
    go_wp2_with fail
    go_ret
    exact ⟨rfl, d0⟩
  have z1 : decide (vp < 0) = false := by simp; omega
  by_cases x2 : 65535 < vp
  · have y2 : 65535 < vp := by omega
    go_wp2_with fail
    go_ret
    exact ⟨rfl, d0⟩
  have z2 : decide (65535 < vp) = false := by simp; omega
  by_cases x3 : dpp < 0
  · have y3 : dpp < 0 := by omega
    go_wp2_with fail
    go_ret
    exact ⟨rfl, d0⟩
  have z3 : decide (dpp < 0) = false := by simp; omega
  by_cases x4 : 65535 < dpp
  · have y4 : 65535 < dpp := by omega
    go_wp2_with fail
    go_ret
    exact ⟨rfl, d0⟩
  have z4 : decide (65535 < dpp) = false := by simp; omega
  have HVP : Hid (0 ≤ vp ∧ vp ≤ 65535) := by show _ ∧ _; omega
  have HDP : Hid (0 ≤ dpp ∧ dpp ≤ 65535) := by show _ ∧ _; omega
  have hnl : n ≤ 1480 := by omega
  clear x0 x1 x2 x3 x4
  obtain ⟨m, hm⟩ : ∃ m, m = 20 + n := ⟨_, rfl⟩
  have HM := Lib.hid hm
  have hml : m ≤ 1500 := by omega
  clear hm
  have d2 : Below w2.heap.size w2 w2 := Below.refl _ _
  go_wp2_with fail
  (with_reducible refine (source_n (build p) p X0 n k0 v vp w2 HN.out hR0 hk0 HI.out HV.out HVP.out).mono ?_)
  rintro e w3 ⟨X1, k1, rfl, hk1, hR1, -, hb⟩
  replace d0 := below_call d0 hb
  replace d2 := below_call d2 hb
  replace hX := hX.kept hb
  clear hb c0 c1 c2 c3 c4 c5 c6 c7 c8 c9 c10 c11 c12 c13 c14 c15 c16 c17 c18
  clear z0 z1 z2 z3 z4
  have HI1 := Lib.hid (isPk_src HI.out HV.out HVP.out)
  have HL1 : Hid ((build (setSrc p v vp)).length = n) := by show _ = _; rw [set_len_src, HN.out]
  obtain ⟨q1, hq1⟩ : ∃ q, (setSrc p v vp) = q := ⟨_, rfl⟩
  have HQ1 := Lib.hid hq1
  rw [hq1] at HI1 HL1 hR1
  clear hq1
  obtain ⟨c0, c1, c2, c3, c4, c5, c6, c7, c8, c9, c10, c11, c12, c13, c14, c15, c16, c17, c18⟩ := blk19 hX
  go_wp2_with fail
  (with_reducible refine (wrap_n aa ab (build q1) q1 X1 n m k1 w3 HAA.out HAB.out HL1.out hR1 hk1 HI1.out hnl HM.out).mono ?_)
  rintro e w4 ⟨X2, k2, rfl, hk2, hR2, hb⟩
  replace d0 := below_call d0 hb
  replace d2 := below_call d2 hb
  replace hX := hX.kept hb
  clear hb c0 c1 c2 c3 c4 c5 c6 c7 c8 c9 c10 c11 c12 c13 c14 c15 c16 c17 c18
  have HNW : Hid (∀ p, ¬ IsPk (wrapB aa ab (build q1)) p) := isW_notPk (isW_of HI1.out (by rw [HL1.out]; exact hnl) HAA.out HAB.out)
  have HWL : Hid ((wrapB aa ab (build q1)).length = m) := by show _ = _; rw [wrapB_len, HL1.out, HM.out]
  obtain ⟨c0, c1, c2, c3, c4, c5, c6, c7, c8, c9, c10, c11, c12, c13, c14, c15, c16, c17, c18⟩ := blk19 hX
  have d4 : Below w4.heap.size w4 w4 := Below.refl _ _
  go_wp2_with fail
  (with_reducible refine (packetOf_no (wrapB aa ab (build q1)) X2 m k2 w4 HWL.out hR2 hk2 HNW.out).mono ?_)
  rintro e w5 ⟨rfl, hb⟩
  replace d0 := below_call d0 hb
  replace d2 := below_call d2 hb
  replace d4 := below_call d4 hb
  replace hX := hX.kept hb
  clear hb c0 c1 c2 c3 c4 c5 c6 c7 c8 c9 c10 c11 c12 c13 c14 c15 c16 c17 c18
  obtain ⟨c0, c1, c2, c3, c4, c5, c6, c7, c8, c9, c10, c11, c12, c13, c14, c15, c16, c17, c18⟩ := blk19 hX
  go_wp2_with fail
  (with_reducible refine (unwrap_n aa ab (build q1) q1 X2 n m k2 w5 HAA.out HAB.out HL1.out HI1.out hnl HM.out (hR2.below d4) hk2).mono ?_)
  rintro e w6 ⟨X3, k3, rfl, hk3, hR3, hb⟩
  replace d0 := below_call d0 hb
  replace d2 := below_call d2 hb
  replace d4 := below_call d4 hb
  replace hX := hX.kept hb
  clear hb c0 c1 c2 c3 c4 c5 c6 c7 c8 c9 c10 c11 c12 c13 c14 c15 c16 c17 c18
  clear hR2 hR1
  obtain ⟨c0, c1, c2, c3, c4, c5, c6, c7, c8, c9, c10, c11, c12, c13, c14, c15, c16, c17, c18⟩ := blk19 hX
  clear d4
  go_wp2_with fail
  (with_reducible refine (dest_n (build q1) q1 X3 n k3 dip dpp w6 HL1.out hR3 hk3 HI1.out HDI.out HDP.out).mono ?_)
  rintro e w7 ⟨X4, k4, rfl, hk4, hR4, -, hb⟩
  replace d0 := below_call d0 hb
  replace d2 := below_call d2 hb
  replace hX := hX.kept hb
  clear hb c0 c1 c2 c3 c4 c5 c6 c7 c8 c9 c10 c11 c12 c13 c14 c15 c16 c17 c18
  have HI2 := Lib.hid (isPk_dst HI1.out HDI.out HDP.out)
  have HL2 : Hid ((build (setDst q1 dip dpp)).length = n) := by show _ = _; rw [set_len_dst, HL1.out]
  have HLK : Hid (LikeP (build p) (build (setDst q1 dip dpp))) := ⟨p, _, HI.out, HI2.out, by rw [← HQ1.out]; rfl, by rw [← HQ1.out]; rfl⟩
  have HF2 : Hid ((setDst q1 dip dpp).fl = ⟨p.fl.proto, v, vp, dip, dpp⟩) := by show _ = _; rw [← HQ1.out]; rfl
  obtain ⟨q2, hq2⟩ : ∃ q, (setDst q1 dip dpp) = q := ⟨_, rfl⟩
  rw [hq2] at HI2 HL2 HLK HF2 hR4
  clear hq2 hR3
  obtain ⟨c0, c1, c2, c3, c4, c5, c6, c7, c8, c9, c10, c11, c12, c13, c14, c15, c16, c17, c18⟩ := blk19 hX
  have d7 : Below w7.heap.size w7 w7 := Below.refl _ _
  go_wp2_with fail
  (with_reducible refine (packetOf_yes (build q2) q2 X4 n k4 w7 HL2.out hR4 hk4 HI2.out).mono ?_)
  rintro e w8 ⟨rfl, hb⟩
  replace d0 := below_call d0 hb
  replace d2 := below_call d2 hb
  replace d7 := below_call d7 hb
  replace hX := hX.kept hb
  clear hb c0 c1 c2 c3 c4 c5 c6 c7 c8 c9 c10 c11 c12 c13 c14 c15 c16 c17 c18
  obtain ⟨c0, c1, c2, c3, c4, c5, c6, c7, c8, c9, c10, c11, c12, c13, c14, c15, c16, c17, c18⟩ := blk19 hX
  go_wp2_with fail
  (with_reducible refine (like_yes (build p) (build q2) X0 X4 n k0 n k4 w8 HN.out HL2.out (hR0.below d2) (hR4.below d7) hk0 hk4 (by omega) (by omega) HLK.out).mono ?_)
  rintro e w9 ⟨rfl, hb⟩
  replace d0 := below_call d0 hb
  replace d2 := below_call d2 hb
  replace d7 := below_call d7 hb
  replace hX := hX.kept hb
  clear hb c0 c1 c2 c3 c4 c5 c6 c7 c8 c9 c10 c11 c12 c13 c14 c15 c16 c17 c18
  obtain ⟨c0, c1, c2, c3, c4, c5, c6, c7, c8, c9, c10, c11, c12, c13, c14, c15, c16, c17, c18⟩ := blk19 hX
  go_wp2_with fail
  (with_reducible refine (flow_good (build q2) q2 X4 n k4 w9 HL2.out (hR4.below d7) hk4 HI2.out).mono ?_)
  rintro e w10 ⟨rfl, hb⟩
  replace d0 := below_call d0 hb
  replace d2 := below_call d2 hb
  replace d7 := below_call d7 hb
  replace hX := hX.kept hb
  clear hb c0 c1 c2 c3 c4 c5 c6 c7 c8 c9 c10 c11 c12 c13 c14 c15 c16 c17 c18
  rw [HF2.out]
  obtain ⟨c0, c1, c2, c3, c4, c5, c6, c7, c8, c9, c10, c11, c12, c13, c14, c15, c16, c17, c18⟩ := blk19 hX
  clear d7
  obtain ⟨fs, hfs⟩ : ∃ fs : Array Value, #[.int .i64 p.fl.proto, .int .u32 v, .int .i64 vp, .int .u32 dip, .int .i64 dpp] = fs := ⟨_, rfl⟩
  have hsz : fs.size = 5 := by rw [← hfs]; rfl
  have hst := store5n (P := Try.prog) w10 fs (by rw [← hfs]; rfl) (by rw [← hfs]; exact fl_one ⟨p.fl.proto, v, vp, dip, dpp⟩)
  have hF12 : Blk ((w10.alloc (.cells #[.int .i64 0, .int .u32 0, .int .i64 0, .int .u32 0, .int .i64 0] 25)).setRow w10.heap.size fs) w10.heap.size 25 (flc ⟨p.fl.proto, v, vp, dip, dpp⟩) := by rw [← hfs]; exact (Blk.new w10 25 (flc fl0)).row _
  have hb : Below w10.heap.size w10 ((w10.alloc (.cells #[.int .i64 0, .int .u32 0, .int .i64 0, .int .u32 0, .int .i64 0] 25)).setRow w10.heap.size fs) := below_row (below_al (Below.refl _ w10) _) (Nat.le_refl _)
  have hgl12 := hF12.lt
  replace d0 := below_call d0 hb
  replace d2 := below_call d2 hb
  replace hX := hX.kept hb
  clear hb
  generalize hgz12 : w10.heap.size = g12 at *
  go_upto_region 19 with (fail)
  generalize (w10.alloc (.cells #[.int .i64 0, .int .u32 0, .int .i64 0, .int .u32 0, .int .i64 0] 25)).setRow g12 fs = w11 at *
  clear hst hfs hsz
  clear c0 c1 c2 c3 c4 c5 c6 c7 c8 c9 c10 c11 c12 c13 c14 c15 c16 c17 c18
  obtain ⟨c0, c1, c2, c3, c4, c5, c6, c7, c8, c9, c10, c11, c12, c13, c14, c15, c16, c17, c18⟩ := blk19 hX
  obtain ⟨fs, hfs⟩ : ∃ fs : Array Value, #[.int .i64 p.fl.proto, .int .u32 v, .int .i64 vp, .int .u32 dip, .int .i64 dpp] = fs := ⟨_, rfl⟩
  have hsz : fs.size = 5 := by rw [← hfs]; rfl
  have hst := store5n (P := Try.prog) w11 fs (by rw [← hfs]; rfl) (by rw [← hfs]; exact fl_one ⟨p.fl.proto, v, vp, dip, dpp⟩)
  have hF14 : Blk ((w11.alloc (.cells #[.int .i64 0, .int .u32 0, .int .i64 0, .int .u32 0, .int .i64 0] 25)).setRow w11.heap.size fs) w11.heap.size 25 (flc ⟨p.fl.proto, v, vp, dip, dpp⟩) := by rw [← hfs]; exact (Blk.new w11 25 (flc fl0)).row _
  have hb : Below w11.heap.size w11 ((w11.alloc (.cells #[.int .i64 0, .int .u32 0, .int .i64 0, .int .u32 0, .int .i64 0] 25)).setRow w11.heap.size fs) := below_row (below_al (Below.refl _ w11) _) (Nat.le_refl _)
  have hgl14 := hF14.lt
  replace d0 := below_call d0 hb
  replace d2 := below_call d2 hb
  replace hX := hX.kept hb
  replace hF12 := hF12.kept hb
  clear hb
  generalize hgz14 : w11.heap.size = g14 at *
  go_upto_region 20 with (fail)
  generalize (w11.alloc (.cells #[.int .i64 0, .int .u32 0, .int .i64 0, .int .u32 0, .int .i64 0] 25)).setRow g14 fs = w12 at *
  clear hst hfs hsz
  clear c0 c1 c2 c3 c4 c5 c6 c7 c8 c9 c10 c11 c12 c13 c14 c15 c16 c17 c18
  obtain ⟨fw, hfw⟩ : ∃ fw : Fl, fw = ⟨p.fl.proto, v, vp, dip, dpp⟩ := ⟨_, rfl⟩
  have HFW := Lib.hid hfw
  rw [← hfw] at hF12 hF14
  clear hfw
  obtain ⟨a0, a1, a2, a3, a4⟩ := blk5 hF12
  obtain ⟨b0, b1_, b2_, b3, b4_⟩ := blk5 hF14
  have heq := fl_same fw
  go_upto_region 22 with (fail)
  clear heq b0 b1_ b2_ b3 b4_ hF14
  obtain ⟨c0, c1, c2, c3, c4, c5, c6, c7, c8, c9, c10, c11, c12, c13, c14, c15, c16, c17, c18⟩ := blk19 hX
  go_wp2_with fail
  (with_reducible refine (reverse_any fw w12).mono ?_)
  rintro e w13 ⟨rfl, hb⟩
  replace d0 := below_call d0 hb
  replace d2 := below_call d2 hb
  replace hX := hX.kept hb
  clear hb c0 c1 c2 c3 c4 c5 c6 c7 c8 c9 c10 c11 c12 c13 c14 c15 c16 c17 c18
  clear a0 a1 a2 a3 a4
  obtain ⟨c0, c1, c2, c3, c4, c5, c6, c7, c8, c9, c10, c11, c12, c13, c14, c15, c16, c17, c18⟩ := blk19 hX
  have HGR : Hid (GoodF (rev fw)) := by rw [HFW.out]; exact ⟨HG.out.1.1, HDP.out, HVP.out⟩
  have HPR : Hid ((rev fw).proto = p.fl.proto) := by show _ = _; rw [HFW.out]; rfl
  have HRS : Hid (0 ≤ (rev fw).src ∧ (rev fw).src ≤ 4294967295) := by rw [HFW.out]; exact HDI.out
  have HRD : Hid (0 ≤ (rev fw).dst ∧ (rev fw).dst ≤ 4294967295) := by rw [HFW.out]; exact HV.out
  generalize rev fw = rf at *
  go_wp2_with fail
  (with_reducible refine (both_good (build p) p rf X0 n k0 w13 HN.out (hR0.below d2) hk0 HI.out HGR.out HPR.out HRS.out HRD.out).mono ?_)
  rintro e w14 ⟨X5, k5, rfl, hk5, hR5, -, hb⟩
  replace d0 := below_call d0 hb
  replace d2 := below_call d2 hb
  replace hX := hX.kept hb
  clear hb c0 c1 c2 c3 c4 c5 c6 c7 c8 c9 c10 c11 c12 c13 c14 c15 c16 c17 c18
  have hgu := setFl_good HI.out.1 HI.out.2.1 HGR.out HRS.out HRD.out HPR.out
  have HI5 : Hid (IsPk (build (setFl p rf)) (setFl p rf)) := isPk_build hgu.1 hgu.2
  have HL5 : Hid ((build (setFl p rf)).length = n) := by
    show _ = _
    rw [build_len]
    show 20 + ((if rf.proto = 17 then 8 else 20) + p.data.length) = n
    rw [HPR.out, ← build_len, HN.out]
  clear hgu
  have HPS : Hid (0 ≤ p.fl.src ∧ p.fl.src ≤ 4294967295) := HU.out.1
  have HPD : Hid (0 ≤ p.fl.dst ∧ p.fl.dst ≤ 4294967295) := HU.out.2.1
  have HSP : Hid (0 ≤ p.fl.sp ∧ p.fl.sp ≤ 65535) := HG.out.1.2.1
  have HDQ : Hid (0 ≤ p.fl.dp ∧ p.fl.dp ≤ 65535) := HG.out.1.2.2
  obtain ⟨c0, c1, c2, c3, c4, c5, c6, c7, c8, c9, c10, c11, c12, c13, c14, c15, c16, c17, c18⟩ := blk19 hX
  go_wp2_with fail
  (with_reducible refine (source_n (build (setFl p rf)) (setFl p rf) X5 n k5 p.fl.dst p.fl.dp w14 HL5.out hR5 hk5 HI5.out HPD.out HDQ.out).mono ?_)
  rintro e w15 ⟨X6, k6, rfl, hk6, hR6, -, hb⟩
  replace d0 := below_call d0 hb
  replace d2 := below_call d2 hb
  replace hX := hX.kept hb
  clear hb c0 c1 c2 c3 c4 c5 c6 c7 c8 c9 c10 c11 c12 c13 c14 c15 c16 c17 c18
  have HI6 := Lib.hid (isPk_src HI5.out HPD.out HDQ.out)
  have HL6 : Hid ((build (setSrc (setFl p rf) p.fl.dst p.fl.dp)).length = n) := by show _ = _; rw [set_len_src, HL5.out]
  obtain ⟨q6, hq6⟩ : ∃ q, (setSrc (setFl p rf) p.fl.dst p.fl.dp) = q := ⟨_, rfl⟩
  have HQ6 := Lib.hid hq6
  rw [hq6] at HI6 HL6 hR6
  clear hq6 hR5
  obtain ⟨c0, c1, c2, c3, c4, c5, c6, c7, c8, c9, c10, c11, c12, c13, c14, c15, c16, c17, c18⟩ := blk19 hX
  go_wp2_with fail
  (with_reducible refine (dest_n (build q6) q6 X6 n k6 p.fl.src p.fl.sp w15 HL6.out hR6 hk6 HI6.out HPS.out HSP.out).mono ?_)
  rintro e w16 ⟨X7, k7, rfl, hk7, hR7, -, hb⟩
  replace d0 := below_call d0 hb
  replace d2 := below_call d2 hb
  replace hX := hX.kept hb
  clear hb c0 c1 c2 c3 c4 c5 c6 c7 c8 c9 c10 c11 c12 c13 c14 c15 c16 c17 c18
  have HI7 := Lib.hid (isPk_dst HI6.out HPS.out HSP.out)
  have HL7 : Hid ((build (setDst q6 p.fl.src p.fl.sp)).length = n) := by show _ = _; rw [set_len_dst, HL6.out]
  have HF7 : Hid ((setDst q6 p.fl.src p.fl.sp).fl = rev p.fl) := by
    show _ = _
    rw [← HQ6.out]
    show (⟨rf.proto, p.fl.dst, p.fl.dp, p.fl.src, p.fl.sp⟩ : Fl) = _
    rw [HPR.out]
    rfl
  have HLK7 : Hid (LikeP (build (setDst q6 p.fl.src p.fl.sp)) (build p)) := ⟨_, p, HI7.out, HI.out, by rw [HF7.out]; rfl, by rw [← HQ6.out]; rfl⟩
  obtain ⟨q7, hq7⟩ : ∃ q, (setDst q6 p.fl.src p.fl.sp) = q := ⟨_, rfl⟩
  rw [hq7] at HI7 HL7 HF7 HLK7 hR7
  clear hq7 hR6
  obtain ⟨c0, c1, c2, c3, c4, c5, c6, c7, c8, c9, c10, c11, c12, c13, c14, c15, c16, c17, c18⟩ := blk19 hX
  have d16 : Below w16.heap.size w16 w16 := Below.refl _ _
  go_wp2_with fail
  (with_reducible refine (flow_good (build q7) q7 X7 n k7 w16 HL7.out hR7 hk7 HI7.out).mono ?_)
  rintro e w17 ⟨rfl, hb⟩
  replace d0 := below_call d0 hb
  replace d2 := below_call d2 hb
  replace d16 := below_call d16 hb
  replace hX := hX.kept hb
  clear hb c0 c1 c2 c3 c4 c5 c6 c7 c8 c9 c10 c11 c12 c13 c14 c15 c16 c17 c18
  rw [HF7.out]
  obtain ⟨c0, c1, c2, c3, c4, c5, c6, c7, c8, c9, c10, c11, c12, c13, c14, c15, c16, c17, c18⟩ := blk19 hX
  obtain ⟨rp, hrp⟩ : ∃ rp : Fl, rev p.fl = rp := ⟨_, rfl⟩
  have HRP := Lib.hid hrp
  rw [hrp]
  clear hrp
  obtain ⟨fs, hfs⟩ : ∃ fs : Array Value, #[.int .i64 rp.proto, .int .u32 rp.src, .int .i64 rp.sp, .int .u32 rp.dst, .int .i64 rp.dp] = fs := ⟨_, rfl⟩
  have hsz : fs.size = 5 := by rw [← hfs]; rfl
  have hst := store5n (P := Try.prog) w17 fs (by rw [← hfs]; rfl) (by rw [← hfs]; exact fl_one rp)
  have hF16 : Blk ((w17.alloc (.cells #[.int .i64 0, .int .u32 0, .int .i64 0, .int .u32 0, .int .i64 0] 25)).setRow w17.heap.size fs) w17.heap.size 25 (flc rp) := by rw [← hfs]; exact (Blk.new w17 25 (flc fl0)).row _
  have hb : Below w17.heap.size w17 ((w17.alloc (.cells #[.int .i64 0, .int .u32 0, .int .i64 0, .int .u32 0, .int .i64 0] 25)).setRow w17.heap.size fs) := below_row (below_al (Below.refl _ w17) _) (Nat.le_refl _)
  replace d0 := below_call d0 hb
  replace d2 := below_call d2 hb
  replace d16 := below_call d16 hb
  replace hX := hX.kept hb
  clear hb hF12
  generalize hgz16 : w17.heap.size = g16 at *
  go_upto_region 32 with (fail)
  generalize (w17.alloc (.cells #[.int .i64 0, .int .u32 0, .int .i64 0, .int .u32 0, .int .i64 0] 25)).setRow g16 fs = w18 at *
  clear hst hfs hsz c0 c1 c2 c3 c4 c5 c6 c7 c8 c9 c10 c11 c12 c13 c14 c15 c16 c17 c18
  obtain ⟨a0, a1, a2, a3, a4⟩ := blk5 hF16
  obtain ⟨c0, c1, c2, c3, c4, c5, c6, c7, c8, c9, c10, c11, c12, c13, c14, c15, c16, c17, c18⟩ := blk19 hX
  have y : w18.cell? ⟨g16, 0, none⟩ = some (.int .i64 rp.proto) ∧ w18.cell? ⟨g16, 1, none⟩ = some (.int .u32 rp.src) ∧ w18.cell? ⟨g16, 2, none⟩ = some (.int .i64 rp.sp) ∧ w18.cell? ⟨g16, 3, none⟩ = some (.int .u32 rp.dst) ∧ w18.cell? ⟨g16, 4, none⟩ = some (.int .i64 rp.dp) ∧ w18.cell? ⟨w.heap.size, 3, none⟩ = some (.int .i64 p.fl.proto) ∧ w18.cell? ⟨w.heap.size, 4, none⟩ = some (.int .u32 p.fl.src) ∧ w18.cell? ⟨w.heap.size, 5, none⟩ = some (.int .i64 p.fl.sp) ∧ w18.cell? ⟨w.heap.size, 6, none⟩ = some (.int .u32 p.fl.dst) ∧ w18.cell? ⟨w.heap.size, 7, none⟩ = some (.int .i64 p.fl.dp) := ⟨a0, a1, a2, a3, a4, c3, c4, c5, c6, c7⟩
  have hcur : Below w18.heap.size w18 w18.drew := Below.drew (Below.refl _ w18)
  have heq := fl_same rp
  clear a0 a1 a2 a3 a4 c0 c1 c2 c3 c4 c5 c6 c7 c8 c9 c10 c11 c12 c13 c14 c15 c16 c17 c18 hF16 hX
  go_region_held3 (fun w' => w'.cell? ⟨g16, 0, none⟩ = some (.int .i64 rp.proto) ∧ w'.cell? ⟨g16, 1, none⟩ = some (.int .u32 rp.src) ∧ w'.cell? ⟨g16, 2, none⟩ = some (.int .i64 rp.sp) ∧ w'.cell? ⟨g16, 3, none⟩ = some (.int .u32 rp.dst) ∧ w'.cell? ⟨g16, 4, none⟩ = some (.int .i64 rp.dp) ∧ w'.cell? ⟨w.heap.size, 3, none⟩ = some (.int .i64 p.fl.proto) ∧ w'.cell? ⟨w.heap.size, 4, none⟩ = some (.int .u32 p.fl.src) ∧ w'.cell? ⟨w.heap.size, 5, none⟩ = some (.int .i64 p.fl.sp) ∧ w'.cell? ⟨w.heap.size, 6, none⟩ = some (.int .u32 p.fl.dst) ∧ w'.cell? ⟨w.heap.size, 7, none⟩ = some (.int .i64 p.fl.dp))
    (first | with_reducible exact y | with_reducible exact keepTen hcur y)
    (first
      | (go_at_call 14; (with_reducible refine (reverse_any p.fl _).mono ?_); rintro e w20 ⟨rfl, hb⟩; rw [HRP.out]; replace hcur := below_call hcur hb)
      | (go_at_call 11; (with_reducible refine (like_yes (build q7) (build p) X7 X0 n k7 n k0 _ HL7.out HN.out ((hR7.below d16).below hcur) ((hR0.below d2).below hcur) hk7 hk0 (by omega) (by omega) HLK7.out).mono ?_); rintro e w20 ⟨rfl, hb⟩; replace hcur := below_call hcur hb))
  all_goals
    go_wp2_with fail
    go_ret
    exact ⟨rfl, below_call d0 hcur⟩
end Go.Proofs.Ytleahlgimppjkaa
