/- The walk of packet.segment, of TCP. -/
import Derived.Test.YtbhdjalpkecbeaaSegmentU
namespace Go.Proofs.Ytbhdjalpkecbeaa
set_option linter.unusedVariables false
set_option linter.unusedSimpArgs false
open Go.RowKit

set_option maxHeartbeats 3200000 in
theorem segment_tcp (p : Pk) (B : Option Addr) (d : Nat) (w : World) (hd : PkD w B d p) (hg : GoodP p) (hu : U32s p) (h6 : p.fl.proto = 6) :
    Calls Try.prog 57 #[pkv p B d] w fun e w' => ∃ v, e = .returned v ∧ w'.ownsRow (w.heap.size + 2) 5 1 v (segS p).length ((segS p).map bv) ∧ Below w.heap.size w w' := by
  obtain ⟨i0, hi, hz0, hz1, hz2⟩ := info_parts info_u8
  have HSEG : Hid (segS p = segT p (ownSum p)) := by show seg p _ = _; unfold seg; rw [if_neg (by rw [h6]; omega)]
  have HOWN : Hid (own0 p = cks (ahead p.fl (20 + p.data.length) ++ segT p 0)) := by show own0 p = _; unfold own0; rw [seg_len, if_neg (by rw [h6]; omega)]; unfold seg; rw [if_neg (by rw [h6]; omega)]
  have HOW2 : Hid (ownSum p = own0 p) := by show ownSum p = _; unfold ownSum; rw [if_neg (by rw [h6]; omega)]
  have hdl : p.data.length ≤ 1460 := by have := hg.2.2.2.2.2.2.2; rw [if_neg (by rw [h6]; omega)] at this; exact this
  obtain ⟨tos, id, ttl, ⟨proto, src, sp, dst, dp⟩, sq, ak, flags, win, data⟩ := p
  obtain ⟨⟨-, hsp, hdp⟩, -, -, -, hfl, hwn, -⟩ := hg
  obtain ⟨hs, hdd, hsq, hak⟩ := hu
  simp only at hsp hdp hs hdd h6 hdl hfl hwn hsq hak
  subst h6
  obtain ⟨sp, rfl⟩ := Int.eq_ofNat_of_zero_le hsp.1
  obtain ⟨dp, rfl⟩ := Int.eq_ofNat_of_zero_le hdp.1
  obtain ⟨src, rfl⟩ := Int.eq_ofNat_of_zero_le hs.1
  obtain ⟨dst, rfl⟩ := Int.eq_ofNat_of_zero_le hdd.1
  obtain ⟨sq, rfl⟩ := Int.eq_ofNat_of_zero_le hsq.1
  obtain ⟨ak, rfl⟩ := Int.eq_ofNat_of_zero_le hak.1
  obtain ⟨flags, rfl⟩ := Int.eq_ofNat_of_zero_le hfl.1
  obtain ⟨win, rfl⟩ := Int.eq_ofNat_of_zero_le hwn.1
  have hsp2 : sp ≤ 65535 := by omega
  have hdp2 : dp ≤ 65535 := by omega
  have hs2 : src ≤ 4294967295 := by omega
  have hd2 : dst ≤ 4294967295 := by omega
  have hsq2 : sq ≤ 4294967295 := by omega
  have hak2 : ak ≤ 4294967295 := by omega
  have hfl2 : flags ≤ 255 := by omega
  have hwn2 : win ≤ 65535 := by omega
  clear hsp hdp hs hdd hsq hak hfl hwn
  obtain ⟨hdc, hdB⟩ := hd
  simp only at hdc hdB
  go_enter Try.func57, Try.ntmps57
  go_upto_region 2 with (fail)
  have hb0 : Below w.heap.size w ((w.alloc (.cells #[.int .i64 tos, .int .i64 id, .int .i64 ttl, .int .i64 6, .int .u32 (src : Int), .int .i64 (sp : Int), .int .u32 (dst : Int), .int .i64 (dp : Int), .int .u32 (sq : Int), .int .u32 (ak : Int), .int .i64 (flags : Int), .int .i64 (win : Int), .slice B data.length d] 52)).alloc (.cells #[.slice none 0 0] 91)) := ((Below.refl _ w).alloc (Nat.le_refl _) _).alloc (by simp) _
  have hX : Blk ((w.alloc (.cells #[.int .i64 tos, .int .i64 id, .int .i64 ttl, .int .i64 6, .int .u32 (src : Int), .int .i64 (sp : Int), .int .u32 (dst : Int), .int .i64 (dp : Int), .int .u32 (sq : Int), .int .u32 (ak : Int), .int .i64 (flags : Int), .int .i64 (win : Int), .slice B data.length d] 52)).alloc (.cells #[.slice none 0 0] 91)) w.heap.size 52 (pkc ⟨tos, id, ttl, ⟨6, src, sp, dst, dp⟩, sq, ak, flags, win, data⟩ B d) := (Blk.new w _ _).alloc _
  have hW0 : Wr ((w.alloc (.cells #[.int .i64 tos, .int .i64 id, .int .i64 ttl, .int .i64 6, .int .u32 (src : Int), .int .i64 (sp : Int), .int .u32 (dst : Int), .int .i64 (dp : Int), .int .u32 (sq : Int), .int .u32 (ak : Int), .int .i64 (flags : Int), .int .i64 (win : Int), .slice B data.length d] 52)).alloc (.cells #[.slice none 0 0] 91)) (w.heap.size + 1) [] (.slice none 0 0) := wr_new (by simp)
  generalize ((w.alloc (.cells #[.int .i64 tos, .int .i64 id, .int .i64 ttl, .int .i64 6, .int .u32 (src : Int), .int .i64 (sp : Int), .int .u32 (dst : Int), .int .i64 (dp : Int), .int .u32 (sq : Int), .int .u32 (ak : Int), .int .i64 (flags : Int), .int .i64 (win : Int), .slice B data.length d] 52)).alloc (.cells #[.slice none 0 0] 91)) = wa at *
  obtain ⟨c0, c1, c2, c3, c4, c5, c6, c7, c8, c9, c10, c11, c12⟩ := blk13 hX
  clear c0 c1 c2
  go_wp2_with fail
  (with_reducible refine (two2 (w.heap.size + 1) [] _ sp dp _ _ wa hW0 (by simp) hsp2 hdp2 rfl rfl rfl).mono ?_)
  rintro e w2 ⟨v2, x2, rfl, hW2, hb2⟩
  rw [List.nil_append] at hW2
  have hbb2 : Below w.heap.size w w2 := hb0.trans (hb2.mono (by omega))
  have hX2 := hX.below hb2 (by omega)
  have hl2 : (be 2 sp ++ be 2 dp).length = 4 := by simp [be_len]
  generalize hq2 : be 2 sp ++ be 2 dp = q2 at *
  have HQ2 := Lib.hid hq2
  have HL2 := Lib.hid hl2
  clear hq2 hl2 hX hW0 hb0 hb2 c3 c4 c5 c6 c7 c8 c9 c10 c11 c12
  obtain ⟨c0, c1, c2, c3, c4, c5, c6, c7, c8, c9, c10, c11, c12⟩ := blk13 hX2
  clear c0 c1 c2
  go_wp2_with fail
  (with_reducible refine (four2 (w.heap.size + 1) q2 _ sq ak _ _ w2 hW2 (by rw [HL2.out]; omega) hsq2 hak2 rfl rfl rfl).mono ?_)
  rintro e wf ⟨vf, xf, rfl, hWf, hbf⟩
  have hbbf : Below w.heap.size w wf := hbb2.trans (hbf.mono (by omega))
  have hXf := hX2.below hbf (by omega)
  have hlf : (q2 ++ (be 4 sq ++ be 4 ak)).length = 12 := by simp [be_len, HL2.out]
  generalize hqf : q2 ++ (be 4 sq ++ be 4 ak) = qf at *
  have HQF := Lib.hid hqf
  have HLF := Lib.hid hlf
  clear hqf hlf hX2 hW2 hbb2 hbf c3 c4 c5 c6 c7 c8 c9 c10 c11 c12
  obtain ⟨c0, c1, c2, c3, c4, c5, c6, c7, c8, c9, c10, c11, c12⟩ := blk13 hXf
  clear c0 c1 c2
  obtain ⟨hBf, hOf⟩ := hWf
  rw [HLF.out] at hOf
  obtain ⟨Bf, kf, rfl, hkf, -, -⟩ := own_form hOf
  have cW := hBf.cell 0
  simp only [List.getElem?_cons_zero] at cW
  have hltf := hBf.lt
  obtain ⟨y, hy, HY⟩ : ∃ y : UInt8, (flags : Int) = (y.toNat : Int) ∧ Hid (y = UInt8.ofNat flags) := ⟨_, by rw [UInt8.toNat_ofNat']; omega, rfl⟩
  have hyl : (y.toNat : Int) % 256 = (y.toNat : Int) := by have := y.toNat_lt; omega
  go_wp2_with (at_builtin; refine wl_app _ rfl (.tmp 30) (.tmp 34) 91 rfl (w.heap.size + 2) 5 i0 (.int .u8 0) 1 1 Try.underlying91 hi hz0 hz1 hz2 rfl (by omega) (.slice Bf 12 kf) 12 (qf.map bv) rfl (hOf.alloc _) (some ⟨wf.heap.size, 0, none⟩) 2 2 [.int .u8 80, .int .u8 (y.toNat : Int)] rfl rfl (rc_new wf _ _) (by simp [Value.oneCell']) (by unfold maxLen; omega) (by omega) (by simp; omega) ?_)
  intro vg wg hOg hgg _
  have hbbg : Below w.heap.size w wg := (below_al hbbf _).grown hgg (by simp; omega) (fun b e => by have := (own_lt hOf e).1; omega)
  have hBg := (hBf.alloc (.cells #[.int .u8 80, .int .u8 (y.toNat : Int)] 5)).grown hgg (own_ne' (by omega) hOf)
  have hXg := (hXf.alloc (.cells #[.int .u8 80, .int .u8 (y.toNat : Int)] 5)).grown hgg (own_ne' (by omega) hOf)
  have hOg' : wg.ownsRow (w.heap.size + 2) 5 1 vg 14 ((qf ++ [80, y]).map bv) := by rw [List.map_append]; exact hOg
  have hlg : (qf ++ [80, y]).length = 14 := by simp [HLF.out]
  generalize hqg : qf ++ [80, y] = qg at *
  have HQG := Lib.hid hqg
  have HLG := Lib.hid hlg
  clear hqg hlg hOg hgg hOf hBf hXf cW hbbf hyl c3 c4 c5 c6 c7 c8 c9 c10 c11 c12
  obtain ⟨Bg, kg, rfl, hkg, -, -⟩ := own_form hOg'
  have cW := hBg.cell 0
  simp only [List.getElem?_cons_zero] at cW
  have fW := hBg.frozen 0
  have hltg := hBg.lt
  go_upto_region 8 with (fail)
  have hWh : Wr (wg.setCell ⟨w.heap.size + 1, 0, none⟩ (.slice Bg 14 kg)) (w.heap.size + 1) qg (.slice Bg 14 kg) := ⟨by simpa using hBg.set_ 0 (.slice Bg 14 kg), by rw [HLG.out]; exact own_set (by omega) hOg'⟩
  have hXh := hXg.far (p := ⟨w.heap.size + 1, 0, none⟩) (by simp) (.slice Bg 14 kg)
  have hbbh : Below w.heap.size w (wg.setCell ⟨w.heap.size + 1, 0, none⟩ (.slice Bg 14 kg)) := hbbg.setCell (by simp) _
  generalize wg.setCell ⟨w.heap.size + 1, 0, none⟩ (.slice Bg 14 kg) = wh at *
  clear hBg hXg hOg' hbbg cW fW
  obtain ⟨c0, c1, c2, c3, c4, c5, c6, c7, c8, c9, c10, c11, c12⟩ := blk13 hXh
  clear c0 c1 c2
  go_wp2_with fail
  (with_reducible refine (two3 (w.heap.size + 1) qg _ win 0 0 _ 0 0 wh hWh (by rw [HLG.out]; omega) hwn2 (by omega) (by omega) rfl rfl rfl rfl).mono ?_)
  rintro e w3 ⟨v3, x3, rfl, hW3, hb3⟩
  have hbb3 : Below w.heap.size w w3 := hbbh.trans (hb3.mono (by omega))
  have hX3 := hXh.below hb3 (by omega)
  have hl3 : (qg ++ (be 2 win ++ be 2 0 ++ be 2 0)).length = 20 := by simp [be_len, HLG.out]
  generalize hq3 : qg ++ (be 2 win ++ be 2 0 ++ be 2 0) = q3 at *
  have HQ3 := Lib.hid hq3
  have HL3 := Lib.hid hl3
  clear hq3 hl3 hXh hWh hbbh hb3 c3 c4 c5 c6 c7 c8 c9 c10 c11 c12
  obtain ⟨c0, c1, c2, c3, c4, c5, c6, c7, c8, c9, c10, c11, c12⟩ := blk13 hX3
  clear c0 c1 c2
  obtain ⟨hB3, hO3⟩ := hW3
  rw [HL3.out] at hO3
  obtain ⟨B3, k3, rfl, hk3, -, -⟩ := own_form hO3
  have cW := hB3.cell 0
  simp only [List.getElem?_cons_zero] at cW
  have hlt3 := hB3.lt
  go_wp2_with (at_builtin; refine wl_appU _ rfl (.tmp 40) (.tmp 42) 91 22 rfl (w.heap.size + 2) 5 5 i0 (.int .u8 0) 1 1 Try.underlying91 Try.underlying22 hi hz0 hz1 hz2 rfl (by omega) (.slice B3 20 k3) 20 (q3.map bv) rfl hO3 B data.length d (data.map bv) rfl (by simp) (RB.below hdB hbb3) (one_bv data) (by unfold maxLen; omega) (by omega) (by omega) ?_)
  intro v4 w4 hO4 hg4 _
  have hbb4 : Below w.heap.size w w4 := hbb3.grown hg4 (by omega) (fun b e => by have := (own_lt hO3 e).1; omega)
  have hB4 := hB3.grown hg4 (own_ne' (by omega) hO3)
  have hX4 := hX3.grown hg4 (own_ne' (by omega) hO3)
  have hO4' : w4.ownsRow (w.heap.size + 2) 5 1 v4 (q3 ++ data).length ((q3 ++ data).map bv) := by rw [List.length_append, List.map_append, HL3.out]; exact hO4
  have hl4 : (q3 ++ data).length = 20 + data.length := by rw [List.length_append, HL3.out]
  generalize hq4 : q3 ++ data = q4 at *
  have HQ4 := Lib.hid hq4
  rw [hl4] at hO4'
  have HL4 := Lib.hid hl4
  clear hq4 hl4 hO4 hg4 hO3 hB3 hX3 cW hbb3 c3 c4 c5 c6 c7 c8 c9 c10 c11 c12
  obtain ⟨B4, k4, rfl, hk4, hR4, -⟩ := own_form hO4'
  have cW := hB4.cell 0
  simp only [List.getElem?_cons_zero] at cW
  have fW := hB4.frozen 0
  have hlt4 := hB4.lt
  have hs4 : w.heap.size + 2 ≤ w4.heap.size := by omega
  go_upto_region 11 with (fail)
  have hB5 : Blk (w4.setCell ⟨w.heap.size + 1, 0, none⟩ (.slice B4 (20 + data.length) k4)) (w.heap.size + 1) 91 [.slice B4 (20 + data.length) k4] := by simpa using hB4.set_ 0 (.slice B4 (20 + data.length) k4)
  have hX5 := hX4.far (p := ⟨w.heap.size + 1, 0, none⟩) (by simp) (.slice B4 (20 + data.length) k4)
  have hO5 := own_set (g := w.heap.size + 1) (i := 0) (u := .slice B4 (20 + data.length) k4) (by omega) hO4'
  have hR5 := RC.of_own hO5
  have hbb5 : Below w.heap.size w (w4.setCell ⟨w.heap.size + 1, 0, none⟩ (.slice B4 (20 + data.length) k4)) := hbb4.setCell (by simp) _
  have hs5 : w.heap.size + 2 ≤ (w4.setCell ⟨w.heap.size + 1, 0, none⟩ (.slice B4 (20 + data.length) k4)).heap.size := by simpa [World.setCell] using hs4
  generalize w4.setCell ⟨w.heap.size + 1, 0, none⟩ (.slice B4 (20 + data.length) k4) = w5 at *
  clear hB4 hX4 hO4' hbb4 cW fW hlt4 hs4 hR4
  replace hR5 : RB w5 B4 q4 := hR5
  have hcur : Below w5.heap.size w5 w5.drew := Below.drew (Below.refl _ w5)
  have hq4l : q4.length ≤ 1000000 := by rw [HL4.out]; omega
  have HQ4L := Lib.hid hq4l
  clear hq4l
  have hpl : (be 4 src ++ be 4 dst ++ [0, UInt8.ofNat 6] ++ be 2 (20 + data.length)).length = 12 := by simp [be_len]
  generalize hps : be 4 src ++ be 4 dst ++ [0, UInt8.ofNat 6] ++ be 2 (20 + data.length) = ps at *
  have HPS := Lib.hid hps
  have HPL := Lib.hid hpl
  clear hps hpl
  go_region_held3 (fun w' => w'.cell? ⟨w.heap.size, 3, none⟩ = some (.int .i64 6) ∧ w'.cell? ⟨w.heap.size, 4, none⟩ = some (.int .u32 (src : Int)) ∧ w'.cell? ⟨w.heap.size, 6, none⟩ = some (.int .u32 (dst : Int)) ∧ w'.cell? ⟨w.heap.size + 1, 0, none⟩ = some (.slice B4 (20 + data.length) k4))
    (first | with_reducible exact keepS hcur hX5 hB5 | with_reducible exact keepS (below_al hcur _) hX5 hB5)
    (first
      | (go_at_call 65; (with_reducible refine (pseudo_i src dst 6 (20 + data.length) 6 (20 + (data.length : Int)) _ hs2 hd2 (by omega) (by omega) rfl (by omega)).mono ?_); rintro e w6 ⟨Bp, cp, rfl, hcp, hRp, hb6⟩; rw [HPS.out] at hRp; replace hcur := below_call hcur hb6)
      | (go_at_call 61; (with_reducible refine (sum2_any ps q4 _ 2 _ (rp2_at _ 22 Bp B4 12 cp (20 + data.length) k4 ps q4 HPL.out HL4.out hcp hk4 hRp (RB.below hR5 hcur) rfl) (by rw [HPL.out]; omega) HQ4L.out).mono ?_); rintro e w7 ⟨rfl, rfl⟩))
  all_goals
    have hb8 := below_call hbb5 (below_al hcur (.cells #[.slice Bp 12 cp, .slice B4 (20 + data.length) k4] 22))
    have hX8 := hX5.kept (below_al hcur (.cells #[.slice Bp 12 cp, .slice B4 (20 + data.length) k4] 22))
    have hB8 := hB5.kept (below_al hcur (.cells #[.slice Bp 12 cp, .slice B4 (20 + data.length) k4] 22))
    have hO8 := own_below hO5 (below_al hcur (.cells #[.slice Bp 12 cp, .slice B4 (20 + data.length) k4] 22))
    go_upto_region 12 with (fail)
    have hs8 := hb8.size
    generalize w6.alloc (.cells #[.slice Bp 12 cp, .slice B4 (20 + data.length) k4] 22) = w8 at *
    clear hcur hX5 hB5 hO5 hbb5 hR5 hRp hb6 hX8
    have hc0 := cks_le (ps ++ q4)
    generalize hck : cks (ps ++ q4) = c0 at *
    have HCK := Lib.hid hck
    clear hck
    have cW := hB8.cell 0
    simp only [List.getElem?_cons_zero] at cW
    have HQS : Hid (q4 = segT ⟨tos, id, ttl, ⟨6, src, sp, dst, dp⟩, sq, ak, flags, win, data⟩ 0) := by
      show q4 = _
      rw [← HQ4.out, ← HQ3.out, ← HQG.out, ← HQF.out, ← HQ2.out, HY.out]
      unfold segT
      simp
    have HW0 : Hid (own0 ⟨tos, id, ttl, ⟨6, src, sp, dst, dp⟩, sq, ak, flags, win, data⟩ = c0) := by
      show own0 _ = _
      rw [HOWN.out, ← HCK.out, ← HPS.out, ← HQS.out]
      unfold ahead
      simp
    clear HOWN HCK HPS HPL HQ2 HL2 HQ3 HL3 HQ4 HQ4L HQG HQF HLG HLF HY
    have HFIN : Hid (ownSum ⟨tos, id, ttl, ⟨6, src, sp, dst, dp⟩, sq, ak, flags, win, data⟩ = c0) := by show ownSum _ = _; rw [HOW2.out, HW0.out]
    by_cases hz : c0 = 0
    · subst hz
      go_wp2_with fail
      (with_reducible refine (put_i (w.heap.size + 2) k4 16 0 (20 + data.length) 16 0 _ q4 w8 hO8 HL4.out (by omega) (by omega) (by omega) rfl rfl).mono ?_)
      rintro e w9 ⟨x9, rfl, hO9, hg9⟩
      have hB9 := hB8.grown hg9 (own_ne' (by omega) hO8)
      have hb9 := hb8.grown hg9 hs8 (fun b e => by have := (own_lt hO8 e).1; omega)
      have cW9 := hB9.cell 0
      simp only [List.getElem?_cons_zero] at cW9
      go_wp2_with fail
      go_ret
      refine ⟨_, rfl, ?_, hb9⟩
      rw [HSEG.out, HFIN.out, ← segT_set, ← HQS.out]
      simpa [HL4.out] using hO9
    · have hzb : ((c0 : Int) == 0) = false := by simp; omega
      clear hz
      go_wp2_with fail
      (with_reducible refine (put_i (w.heap.size + 2) k4 16 c0 (20 + data.length) 16 _ _ q4 w8 hO8 HL4.out (by omega) (by omega) hc0 rfl rfl).mono ?_)
      rintro e w9 ⟨x9, rfl, hO9, hg9⟩
      have hB9 := hB8.grown hg9 (own_ne' (by omega) hO8)
      have hb9 := hb8.grown hg9 hs8 (fun b e => by have := (own_lt hO8 e).1; omega)
      have cW9 := hB9.cell 0
      simp only [List.getElem?_cons_zero] at cW9
      go_wp2_with fail
      go_ret
      refine ⟨_, rfl, ?_, hb9⟩
      rw [HSEG.out, HFIN.out, ← segT_set, ← HQS.out]
      simpa [HL4.out] using hO9
end Go.Proofs.Ytbhdjalpkecbeaa
