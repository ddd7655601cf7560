/- The walk of packet.segment. -/
import Derived.Test.YtbhdjalpkecbeaaSegment
namespace Go.Proofs.Ytbhdjalpkecbeaa
set_option linter.unusedVariables false
set_option linter.unusedSimpArgs false
open Go.RowKit

theorem rp2_at (W : World) (t : TypeId) (B B2 : Option Addr) (n c n2 c2 : Nat) (xs ys : List UInt8) (hn : xs.length = n) (hn2 : ys.length = n2) (hc : n ≤ c) (hc2 : n2 ≤ c2) (h : RB W B xs) (h2 : RB W B2 ys) {g : Nat} (hg : g = W.heap.size) :
    RP (W.alloc (.cells #[.slice B n c, .slice B2 n2 c2] t)) (some ⟨g, 0, none⟩) [xs, ys] := by
  subst hn hn2
  exact rp2 W t B B2 c c2 xs ys hc hc2 h h2 hg

set_option maxHeartbeats 3200000 in
theorem segment_udp (p : Pk) (B : Option Addr) (d : Nat) (w : World) (hd : PkD w B d p) (hg : GoodP p) (hu : U32s p) (h17 : p.fl.proto = 17) :
    Calls Try.prog 57 #[pkv p B d] w fun e w' => ∃ v, e = .returned v ∧ w'.ownsRow (w.heap.size + 2) 5 1 v (segS p).length ((segS p).map bv) ∧ Below w.heap.size w w' := by
  obtain ⟨i0, hi, hz0, hz1, hz2⟩ := info_parts info_u8
  have HSEG : Hid (segS p = segU p (ownSum p)) := by show seg p _ = _; unfold seg; rw [if_pos h17]
  have HOWN : Hid (own0 p = cks (ahead p.fl (8 + p.data.length) ++ segU p 0)) := by show own0 p = _; unfold own0; rw [seg_len, if_pos h17]; unfold seg; rw [if_pos h17]
  have HOW2 : Hid (ownSum p = if own0 p = 0 then 65535 else own0 p) := by show ownSum p = _; unfold ownSum; simp only [h17, and_true]
  have hdl : p.data.length ≤ 1472 := by have := hg.2.2.2.2.2.2.2; rw [if_pos h17] at this; exact this
  obtain ⟨tos, id, ttl, ⟨proto, src, sp, dst, dp⟩, sq, ak, flags, win, data⟩ := p
  obtain ⟨⟨-, hsp, hdp⟩, -⟩ := hg
  obtain ⟨hs, hdd, -, -⟩ := hu
  simp only at hsp hdp hs hdd h17 hdl
  subst h17
  obtain ⟨sp, rfl⟩ := Int.eq_ofNat_of_zero_le hsp.1
  obtain ⟨dp, rfl⟩ := Int.eq_ofNat_of_zero_le hdp.1
  obtain ⟨src, rfl⟩ := Int.eq_ofNat_of_zero_le hs.1
  obtain ⟨dst, rfl⟩ := Int.eq_ofNat_of_zero_le hdd.1
  have hsp2 : sp ≤ 65535 := by omega
  have hdp2 : dp ≤ 65535 := by omega
  have hs2 : src ≤ 4294967295 := by omega
  have hd2 : dst ≤ 4294967295 := by omega
  clear hsp hdp hs hdd
  obtain ⟨hdc, hdB⟩ := hd
  simp only at hdc hdB
  go_enter Try.func57, Try.ntmps57
  go_upto_region 2 with (fail)
  have hb0 : Below w.heap.size w ((w.alloc (.cells #[.int .i64 tos, .int .i64 id, .int .i64 ttl, .int .i64 17, .int .u32 (src : Int), .int .i64 (sp : Int), .int .u32 (dst : Int), .int .i64 (dp : Int), .int .u32 sq, .int .u32 ak, .int .i64 flags, .int .i64 win, .slice B data.length d] 52)).alloc (.cells #[.slice none 0 0] 91)) := ((Below.refl _ w).alloc (Nat.le_refl _) _).alloc (by simp) _
  have hX : Blk ((w.alloc (.cells #[.int .i64 tos, .int .i64 id, .int .i64 ttl, .int .i64 17, .int .u32 (src : Int), .int .i64 (sp : Int), .int .u32 (dst : Int), .int .i64 (dp : Int), .int .u32 sq, .int .u32 ak, .int .i64 flags, .int .i64 win, .slice B data.length d] 52)).alloc (.cells #[.slice none 0 0] 91)) w.heap.size 52 (pkc ⟨tos, id, ttl, ⟨17, src, sp, dst, dp⟩, sq, ak, flags, win, data⟩ B d) := (Blk.new w _ _).alloc _
  have hW0 : Wr ((w.alloc (.cells #[.int .i64 tos, .int .i64 id, .int .i64 ttl, .int .i64 17, .int .u32 (src : Int), .int .i64 (sp : Int), .int .u32 (dst : Int), .int .i64 (dp : Int), .int .u32 sq, .int .u32 ak, .int .i64 flags, .int .i64 win, .slice B data.length d] 52)).alloc (.cells #[.slice none 0 0] 91)) (w.heap.size + 1) [] (.slice none 0 0) := wr_new (by simp)
  generalize ((w.alloc (.cells #[.int .i64 tos, .int .i64 id, .int .i64 ttl, .int .i64 17, .int .u32 (src : Int), .int .i64 (sp : Int), .int .u32 (dst : Int), .int .i64 (dp : Int), .int .u32 sq, .int .u32 ak, .int .i64 flags, .int .i64 win, .slice B data.length d] 52)).alloc (.cells #[.slice none 0 0] 91)) = wa at *
  obtain ⟨c0, c1, c2, c3, c4, c5, c6, c7, c8, c9, c10, c11, c12⟩ := blk13 hX
  clear c0 c1 c2 c8 c9 c10 c11
  go_wp2_with fail
  (with_reducible refine (two2 (w.heap.size + 1) [] _ sp dp _ _ wa hW0 (by simp) hsp2 hdp2 rfl rfl rfl).mono ?_)
  rintro e w2 ⟨v2, x2, rfl, hW2, hb2⟩
  rw [List.nil_append] at hW2
  have hbb2 : Below w.heap.size w w2 := hb0.trans (hb2.mono (by omega))
  have hX2 := hX.below hb2 (by omega)
  have hl2 : (be 2 sp ++ be 2 dp).length = 4 := by simp [be_len]
  generalize hq2 : be 2 sp ++ be 2 dp = q2 at *
  have HQ2 := Lib.hid hq2
  have HL2 := Lib.hid hl2
  clear hq2 hl2 hX hW0 hb0 hb2 c3 c4 c5 c6 c7 c12
  obtain ⟨c0, c1, c2, c3, c4, c5, c6, c7, c8, c9, c10, c11, c12⟩ := blk13 hX2
  clear c0 c1 c2 c8 c9 c10 c11
  go_wp2_with fail
  (with_reducible refine (two2 (w.heap.size + 1) q2 _ (8 + data.length) 0 (8 + (data.length : Int)) 0 w2 hW2 (by rw [HL2.out]; omega) (by omega) (by omega) (by omega) (by omega) rfl).mono ?_)
  rintro e w3 ⟨v3, x3, rfl, hW3, hb3⟩
  have hbb3 : Below w.heap.size w w3 := hbb2.trans (hb3.mono (by omega))
  have hX3 := hX2.below hb3 (by omega)
  have hl3 : (q2 ++ (be 2 (8 + data.length) ++ be 2 0)).length = 8 := by simp [be_len, HL2.out]
  generalize hq3 : q2 ++ (be 2 (8 + data.length) ++ be 2 0) = q3 at *
  have HQ3 := Lib.hid hq3
  have HL3 := Lib.hid hl3
  clear hq3 hl3 hX2 hW2 hbb2 hb3 c3 c4 c5 c6 c7 c12
  obtain ⟨c0, c1, c2, c3, c4, c5, c6, c7, c8, c9, c10, c11, c12⟩ := blk13 hX3
  clear c0 c1 c2 c8 c9 c10 c11
  obtain ⟨hB3, hO3⟩ := hW3
  rw [HL3.out] at hO3
  obtain ⟨B3, k3, rfl, hk3, -, -⟩ := own_form hO3
  have cW := hB3.cell 0
  simp only [List.getElem?_cons_zero] at cW
  have hlt3 := hB3.lt
  go_wp2_with (at_builtin; refine wl_appU _ rfl (.tmp 40) (.tmp 42) 91 22 rfl (w.heap.size + 2) 5 5 i0 (.int .u8 0) 1 1 Try.underlying91 Try.underlying22 hi hz0 hz1 hz2 rfl (by omega) (.slice B3 8 k3) 8 (q3.map bv) rfl hO3 B data.length d (data.map bv) rfl (by simp) (RB.below hdB hbb3) (one_bv data) (by unfold maxLen; omega) (by omega) (by omega) ?_)
  intro v4 w4 hO4 hg4 _
  have hbb4 : Below w.heap.size w w4 := hbb3.grown hg4 (by omega) (fun b e => by have := (own_lt hO3 e).1; omega)
  have hB4 := hB3.grown hg4 (own_ne' (by omega) hO3)
  have hX4 := hX3.grown hg4 (own_ne' (by omega) hO3)
  have hO4' : w4.ownsRow (w.heap.size + 2) 5 1 v4 (q3 ++ data).length ((q3 ++ data).map bv) := by rw [List.length_append, List.map_append, HL3.out]; exact hO4
  have hl4 : (q3 ++ data).length = 8 + data.length := by rw [List.length_append, HL3.out]
  generalize hq4 : q3 ++ data = q4 at *
  have HQ4 := Lib.hid hq4
  rw [hl4] at hO4'
  have HL4 := Lib.hid hl4
  clear hq4 hl4 hO4 hg4 hO3 hB3 hX3 cW hbb3 c3 c4 c5 c6 c7 c12
  obtain ⟨B4, k4, rfl, hk4, hR4, -⟩ := own_form hO4'
  have cW := hB4.cell 0
  simp only [List.getElem?_cons_zero] at cW
  have fW := hB4.frozen 0
  have hlt4 := hB4.lt
  have hs4 : w.heap.size + 2 ≤ w4.heap.size := by omega
  go_upto_region 11 with (fail)
  have hB5 : Blk (w4.setCell ⟨w.heap.size + 1, 0, none⟩ (.slice B4 (8 + data.length) k4)) (w.heap.size + 1) 91 [.slice B4 (8 + data.length) k4] := by simpa using hB4.set_ 0 (.slice B4 (8 + data.length) k4)
  have hX5 := hX4.far (p := ⟨w.heap.size + 1, 0, none⟩) (by simp) (.slice B4 (8 + data.length) k4)
  have hO5 := own_set (g := w.heap.size + 1) (i := 0) (u := .slice B4 (8 + data.length) k4) (by omega) hO4'
  have hR5 := RC.of_own hO5
  have hbb5 : Below w.heap.size w (w4.setCell ⟨w.heap.size + 1, 0, none⟩ (.slice B4 (8 + data.length) k4)) := hbb4.setCell (by simp) _
  have hs5 : w.heap.size + 2 ≤ (w4.setCell ⟨w.heap.size + 1, 0, none⟩ (.slice B4 (8 + data.length) k4)).heap.size := by simpa [World.setCell] using hs4
  generalize w4.setCell ⟨w.heap.size + 1, 0, none⟩ (.slice B4 (8 + data.length) k4) = w5 at *
  clear hB4 hX4 hO4' hbb4 cW fW hlt4 hs4 hR4
  replace hR5 : RB w5 B4 q4 := hR5
  have hcur : Below w5.heap.size w5 w5.drew := Below.drew (Below.refl _ w5)
  have hq4l : q4.length ≤ 1000000 := by rw [HL4.out]; omega
  have HQ4L := Lib.hid hq4l
  clear hq4l
  have hpl : (be 4 src ++ be 4 dst ++ [0, UInt8.ofNat 17] ++ be 2 (8 + data.length)).length = 12 := by simp [be_len]
  generalize hps : be 4 src ++ be 4 dst ++ [0, UInt8.ofNat 17] ++ be 2 (8 + data.length) = ps at *
  have HPS := Lib.hid hps
  have HPL := Lib.hid hpl
  clear hps hpl
  go_region_held3 (fun w' => w'.cell? ⟨w.heap.size, 3, none⟩ = some (.int .i64 17) ∧ w'.cell? ⟨w.heap.size, 4, none⟩ = some (.int .u32 (src : Int)) ∧ w'.cell? ⟨w.heap.size, 6, none⟩ = some (.int .u32 (dst : Int)) ∧ w'.cell? ⟨w.heap.size + 1, 0, none⟩ = some (.slice B4 (8 + data.length) k4))
    (first | with_reducible exact keepS hcur hX5 hB5 | with_reducible exact keepS (below_al hcur _) hX5 hB5)
    (first
      | (go_at_call 65; (with_reducible refine (pseudo_i src dst 17 (8 + data.length) 17 (8 + (data.length : Int)) _ hs2 hd2 (by omega) (by omega) rfl (by omega)).mono ?_); rintro e w6 ⟨Bp, cp, rfl, hcp, hRp, hb6⟩; rw [HPS.out] at hRp; replace hcur := below_call hcur hb6)
      | (go_at_call 61; (with_reducible refine (sum2_any ps q4 _ 2 _ (rp2_at _ 22 Bp B4 12 cp (8 + data.length) k4 ps q4 HPL.out HL4.out hcp hk4 hRp (RB.below hR5 hcur) rfl) (by rw [HPL.out]; omega) HQ4L.out).mono ?_); rintro e w7 ⟨rfl, rfl⟩))
  all_goals
    have hb8 := below_call hbb5 (below_al hcur (.cells #[.slice Bp 12 cp, .slice B4 (8 + data.length) k4] 22))
    have hX8 := hX5.kept (below_al hcur (.cells #[.slice Bp 12 cp, .slice B4 (8 + data.length) k4] 22))
    have hB8 := hB5.kept (below_al hcur (.cells #[.slice Bp 12 cp, .slice B4 (8 + data.length) k4] 22))
    have hO8 := own_below hO5 (below_al hcur (.cells #[.slice Bp 12 cp, .slice B4 (8 + data.length) k4] 22))
    go_upto_region 12 with (fail)
    have hs8 := hb8.size
    generalize w6.alloc (.cells #[.slice Bp 12 cp, .slice B4 (8 + data.length) k4] 22) = w8 at *
    clear hcur hX5 hB5 hO5 hbb5 hR5 hRp hb6 hX8
    have hc0 := cks_le (ps ++ q4)
    generalize hck : cks (ps ++ q4) = c0 at *
    have HCK := Lib.hid hck
    clear hck
    have cW := hB8.cell 0
    simp only [List.getElem?_cons_zero] at cW
    have HQS : Hid (q4 = segU ⟨tos, id, ttl, ⟨17, src, sp, dst, dp⟩, sq, ak, flags, win, data⟩ 0) := by
      show q4 = _
      rw [← HQ4.out, ← HQ3.out, ← HQ2.out]
      unfold segU
      simp
    have HW0 : Hid (own0 ⟨tos, id, ttl, ⟨17, src, sp, dst, dp⟩, sq, ak, flags, win, data⟩ = c0) := by
      show own0 _ = _
      rw [HOWN.out, ← HCK.out, ← HPS.out, ← HQS.out]
      unfold ahead
      simp
    clear HOWN HCK HPS HPL HQ2 HL2 HQ3 HL3 HQ4 HQ4L
    by_cases hz : c0 = 0
    · subst hz
      have HFIN : Hid (ownSum ⟨tos, id, ttl, ⟨17, src, sp, dst, dp⟩, sq, ak, flags, win, data⟩ = 65535) := by show ownSum _ = _; rw [HOW2.out, HW0.out]; rfl
      go_wp2_with fail
      (with_reducible refine (put_i (w.heap.size + 2) k4 6 65535 (8 + data.length) 6 65535 _ q4 w8 hO8 HL4.out (by omega) (by omega) (by omega) rfl rfl).mono ?_)
      rintro e w9 ⟨x9, rfl, hO9, hg9⟩
      have hB9 := hB8.grown hg9 (own_ne' (by omega) hO8)
      have hb9 := hb8.grown hg9 hs8 (fun b e => by have := (own_lt hO8 e).1; omega)
      have cW9 := hB9.cell 0
      simp only [List.getElem?_cons_zero] at cW9
      go_wp2_with fail
      go_ret
      refine ⟨_, rfl, ?_, hb9⟩
      rw [HSEG.out, HFIN.out, ← segU_set, ← HQS.out]
      simpa [HL4.out] using hO9
    · have HFIN : Hid (ownSum ⟨tos, id, ttl, ⟨17, src, sp, dst, dp⟩, sq, ak, flags, win, data⟩ = c0) := by show ownSum _ = _; rw [HOW2.out, HW0.out, if_neg hz]
      have hzb : ((c0 : Int) == 0) = false := by simp; omega
      clear hz
      go_wp2_with fail
      (with_reducible refine (put_i (w.heap.size + 2) k4 6 c0 (8 + data.length) 6 _ _ q4 w8 hO8 HL4.out (by omega) (by omega) hc0 rfl rfl).mono ?_)
      rintro e w9 ⟨x9, rfl, hO9, hg9⟩
      have hB9 := hB8.grown hg9 (own_ne' (by omega) hO8)
      have hb9 := hb8.grown hg9 hs8 (fun b e => by have := (own_lt hO8 e).1; omega)
      have cW9 := hB9.cell 0
      simp only [List.getElem?_cons_zero] at cW9
      go_wp2_with fail
      go_ret
      refine ⟨_, rfl, ?_, hb9⟩
      rw [HSEG.out, HFIN.out, ← segU_set, ← HQS.out]
      simpa [HL4.out] using hO9
end Go.Proofs.Ytbhdjalpkecbeaa
