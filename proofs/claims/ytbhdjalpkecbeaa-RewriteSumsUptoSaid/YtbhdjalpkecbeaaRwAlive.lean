/- The fixed fact of layer 4; an argument of its laws, opened. -/
import Derived.Test.YtbhdjalpkecbeaaRwSet
import Derived.Test.YtbhdjalpkecbeaaErr
import Derived.Test.YtbhdjalpkecbeaaPktOpen
import Derived.Lib.SlBytesConst
namespace Go.Proofs.Ytbhdjalpkecbeaa
set_option linter.unusedVariables false
set_option linter.unusedSimpArgs false
open Go.Joins Go.ChangeShapes Go.WideShapes Go.RowKit Go.Deep

def exR : Pk := ⟨0, 0, 64, ⟨17, 134744072, 5000, 16843009, 80⟩, 0, 0, 0, 0, [104, 105]⟩
theorem exR_good : GoodP exR := by
  refine ⟨⟨.inr rfl, ?_, ?_⟩, ?_, ?_, ?_, ?_, ?_, fun _ => ⟨rfl, rfl, rfl, rfl⟩, ?_⟩ <;> simp [exR]
theorem exR_u32 : U32s exR := by simp [U32s, exR]
set_option maxRecDepth 100000 in
set_option maxHeartbeats 3200000 in
theorem alive_any (w : World) : Calls Try.prog 9 #[] w fun e w' => e = .returned (.bool true) ∧ Below w.heap.size w w' := by
  have hl : (build exR).length = 30 := by rw [build_len]; rfl
  have hI : IsPk (build exR) exR := isPk_build exR_good exR_u32
  have hI2 : IsPk (build (setDst exR 167837697 8080)) (setDst exR 167837697 8080) := isPk_dst hI (by omega) (by omega)
  have hne : build exR ≠ build (setDst exR 167837697 8080) := by
    intro h
    rw [h] at hI
    have h2 := isPk_inj hI hI2
    have h3 := congrArg (fun p => p.fl.dp) h2
    simp [exR, setDst] at h3
  have hd1 : RB (w.alloc (.cells #[.int .u8 104, .int .u8 105] 5 (2, 3))) (some ⟨w.heap.size, 0, none⟩) [104, 105] := by
    intro j u hu
    refine ⟨_, rfl, ?_⟩
    rw [add_lit0, World.cell?_alloc_mark, ← hu]
    match j with
    | 0 => rfl
    | 1 => rfl
    | (k + 2) => simp
  have hb1 : Below w.heap.size w (w.alloc (.cells #[.int .u8 104, .int .u8 105] 5 (2, 3))) := (Below.refl _ w).alloc (Nat.le_refl _) _
  have hcv : (convert 22 22 (.slice (some ⟨w.heap.size, 0, none⟩) 2 2)).run Try.prog (w.alloc (.cells #[.int .u8 104, .int .u8 105] 5)) = .ok (.slice (some ⟨w.heap.size, 0, none⟩) 2 2) (w.alloc (.cells #[.int .u8 104, .int .u8 105] 5 (2, 3))) := Lib.run_convert_bytes_const w 22 5 #[.int .u8 104, .int .u8 105] 2 2 Try.underlying22 Try.underlying5
  go_enter Try.func9, Try.ntmps9
  obtain ⟨cs, hcs⟩ : ∃ cs : Array Value, #[.int .i64 0, .int .i64 0, .int .i64 64, .int .i64 17, .int .u32 134744072, .int .i64 5000, .int .u32 16843009, .int .i64 80, .int .u32 0, .int .u32 0, .int .i64 0, .int .i64 0, .slice (some ⟨w.heap.size, 0, none⟩) 2 2] = cs := ⟨_, rfl⟩
  have hsz : cs.size = 13 := by rw [← hcs]; rfl
  have hsl : cs.toList.length = 13 := by rw [← hcs]; rfl
  have hone : ∀ v ∈ cs.toList, v.oneCell' = true := by rw [← hcs]; simp [Value.oneCell']
  have hst := store_new (P := Try.prog) (w.alloc (.cells #[.int .u8 104, .int .u8 105] 5 (2, 3))) cs hsl hone
  have hN : Below (w.alloc (.cells #[.int .u8 104, .int .u8 105] 5 (2, 3))).heap.size (w.alloc (.cells #[.int .u8 104, .int .u8 105] 5 (2, 3))) (((w.alloc (.cells #[.int .u8 104, .int .u8 105] 5 (2, 3))).alloc (.cells #[.int .i64 0, .int .i64 0, .int .i64 0, .int .i64 0, .int .u32 0, .int .i64 0, .int .u32 0, .int .i64 0, .int .u32 0, .int .u32 0, .int .i64 0, .int .i64 0, .slice none 0 0] 52)).setRow (w.alloc (.cells #[.int .u8 104, .int .u8 105] 5 (2, 3))).heap.size cs) := below_row (below_al (Below.refl _ _) _) (Nat.le_refl _)
  have hP : Blk (((w.alloc (.cells #[.int .u8 104, .int .u8 105] 5 (2, 3))).alloc (.cells #[.int .i64 0, .int .i64 0, .int .i64 0, .int .i64 0, .int .u32 0, .int .i64 0, .int .u32 0, .int .i64 0, .int .u32 0, .int .u32 0, .int .i64 0, .int .i64 0, .slice none 0 0] 52)).setRow (w.alloc (.cells #[.int .u8 104, .int .u8 105] 5 (2, 3))).heap.size cs) (w.alloc (.cells #[.int .u8 104, .int .u8 105] 5 (2, 3))).heap.size 52 (pkc exR (some ⟨w.heap.size, 0, none⟩) 2) := by rw [← hcs]; exact (Blk.new _ 52 (pkc pk0 none 0)).row (pkc exR (some ⟨w.heap.size, 0, none⟩) 2)
  have hd2 := hd1.below hN
  have hw2 := below_call hb1 hN
  clear hone hN
  generalize hgg : (w.alloc (.cells #[.int .u8 104, .int .u8 105] 5 (2, 3))).heap.size = gp at *
  have hgp : w.heap.size < gp := by rw [← hgg]; simp
  have hgw : (w.alloc (.cells #[.int .u8 104, .int .u8 105] 5 (2, 3))).heap.size = w.heap.size + 1 := by simp
  have hgp1 : gp = w.heap.size + 1 := by omega
  subst hgp1
  clear hgg hgw
  go_upto_region 2 with (fail)
  generalize ((w.alloc (.cells #[.int .u8 104, .int .u8 105] 5 (2, 3))).alloc (.cells #[.int .i64 0, .int .i64 0, .int .i64 0, .int .i64 0, .int .u32 0, .int .i64 0, .int .u32 0, .int .i64 0, .int .u32 0, .int .u32 0, .int .i64 0, .int .i64 0, .slice none 0 0] 52)).setRow (w.heap.size + 1) cs = w2 at *
  clear hst hcs hsz hsl hd1 hb1
  have hpd : PkD w2 (some ⟨w.heap.size, 0, none⟩) 2 exR := ⟨Nat.le_refl _, hd2⟩
  have HG := Lib.hid exR_good
  have HU := Lib.hid exR_u32
  generalize w.heap.size + 1 = gp at *
  generalize hgd : (some ⟨w.heap.size, 0, none⟩ : Option Addr) = D at *
  have HP' : Hid (setDst exR 167837697 8080 = setDst exR 167837697 8080) := rfl
  generalize exR = p at *
  have HI := Lib.hid hI
  have HI2 := Lib.hid hI2
  have HNE := Lib.hid hne
  have HL := Lib.hid hl
  clear hI hI2 hne hl hd2
  obtain ⟨c0, c1, c2, c3, c4, c5, c6, c7, c8, c9, c10, c11, c12⟩ := blk13 hP
  go_wp2_with fail
  (with_reducible refine (rbuild_n p D 2 w2 hpd HG.out HU.out).mono ?_)
  rintro e w3 ⟨X3, k3, rfl, hk3, hR3, HO3, hb3⟩
  have HX3 : Hid (∀ ad, X3 = some ad → ad.block ≠ gp) := fun ad e => by
    have h1 := own_lt HO3.out (show (Value.slice X3 (build p).length k3).ownBlock = some ad.block by rw [e]; simp [Value.ownBlock])
    have h2 := hP.lt
    omega
  clear HO3
  rw [HL.out] at hk3 ⊢
  have hP3 := hP.kept hb3
  have hpd3 := hpd.below hb3
  have hw3 := below_call hw2 hb3
  clear hP hpd hb3 c0 c1 c2 c3 c4 c5 c6 c7 c8 c9 c10 c11 c12
  go_wp2_with fail
  (with_reducible refine (dest_n (build p) p X3 30 k3 167837697 8080 w3 HL.out hR3 hk3 HI.out (by omega) (by omega)).mono ?_)
  rintro e w4 ⟨X4, k4, rfl, hk4, hR4, HO4, hb4⟩
  have HX4 : Hid (∀ ad, X4 = some ad → ad.block ≠ gp) := fun ad e => by
    have h1 := own_lt HO4.out (show (Value.slice X4 30 k4).ownBlock = some ad.block by rw [e]; simp [Value.ownBlock])
    have h2 := hP3.lt
    omega
  clear HO4
  have hP4 := hP3.kept hb4
  have hpd4 := hpd3.below hb4
  have hw4 := below_call hw3 hb4
  have hR34 := hR3.below hb4
  clear hP3 hpd3 hb4
  obtain ⟨c0, c1, c2, c3, c4, c5, c6, c7, c8, c9, c10, c11, c12⟩ := blk13 hP4
  have f6 := hP4.frozen 6
  have f7 := hP4.frozen 7
  have hgpl : w.heap.size ≤ gp := by omega
  go_upto_region 5 with (fail)
  have hP5 : Blk ((w4.setCell ⟨gp, 6, none⟩ (.int .u32 167837697)).setCell ⟨gp, 7, none⟩ (.int .i64 8080)) gp 52 (pkc (setDst p 167837697 8080) D 2) := (hP4.set_ 6 _).set_ 7 _
  have hw5 : Below w.heap.size w ((w4.setCell ⟨gp, 6, none⟩ (.int .u32 167837697)).setCell ⟨gp, 7, none⟩ (.int .i64 8080)) := (hw4.setCell hgpl _).setCell hgpl _
  have hnX : ∀ (A : Option Addr) (xs : List UInt8), RB w4 A xs → RB ((w4.setCell ⟨gp, 6, none⟩ (.int .u32 167837697)).setCell ⟨gp, 7, none⟩ (.int .i64 8080)) A xs → True := fun _ _ _ _ => trivial
  have hX3n : ∀ ad, X3 = some ad → ad.block ≠ gp := fun ad e => HX3.out ad e
  have hX4n : ∀ ad, X4 = some ad → ad.block ≠ gp := fun ad e => HX4.out ad e
  have hR5 := rb_set_far (i := 7) (v := .int .i64 8080) (rb_set_far (i := 6) (v := .int .u32 167837697) hR34 hX3n) hX3n
  have hR6 := rb_set_far (i := 7) (v := .int .i64 8080) (rb_set_far (i := 6) (v := .int .u32 167837697) hR4 hX4n) hX4n
  have hDn : ∀ ad, D = some ad → ad.block ≠ gp := fun ad e => by rw [← hgd] at e; injection e with e; subst e; simp; omega
  have hpd5 : PkD ((w4.setCell ⟨gp, 6, none⟩ (.int .u32 167837697)).setCell ⟨gp, 7, none⟩ (.int .i64 8080)) D 2 (setDst p 167837697 8080) := ⟨hpd4.1, rb_set_far (rb_set_far hpd4.2 hDn) hDn⟩
  generalize (w4.setCell ⟨gp, 6, none⟩ (.int .u32 167837697)).setCell ⟨gp, 7, none⟩ (.int .i64 8080) = w5 at *
  have HL2 : Hid ((build (setDst p 167837697 8080)).length = 30) := by show _ = _; rw [set_len_dst, HL.out]
  generalize setDst p 167837697 8080 = p2 at *
  clear hP4 hR34 hR4 hX3n hX4n hDn hpd4 hw4 f6 f7 hnX HP' c0 c1 c2 c3 c4 c5 c6 c7 c8 c9 c10 c11 c12
  obtain ⟨c0, c1, c2, c3, c4, c5, c6, c7, c8, c9, c10, c11, c12⟩ := blk13 hP5
  have HI2' : Hid (GoodP p2 ∧ U32s p2) := ⟨HI2.out.1, HI2.out.2.1⟩
  go_wp2_with fail
  (with_reducible refine (rbuild_n p2 D 2 w5 hpd5 HI2'.out.1 HI2'.out.2).mono ?_)
  rintro e w6 ⟨X6, k6, rfl, hk6, hR7, -, hb6⟩
  rw [HL2.out]
  have hw6 := below_call hw5 hb6
  have hR8 := hR5.below hb6
  have hR9 := hR6.below hb6
  have hcm := beq_bs (build p) (build p2)
  rw [decide_eq_false HNE.out] at hcm
  have s1 := run_str (P := Try.prog) _ _ _ _ Try.underlying22 Try.underlying5 Try.underlying9 _ 30 k3 _ hR8 HL.out
  have s2 := run_str (P := Try.prog) _ _ _ _ Try.underlying22 Try.underlying5 Try.underlying9 _ 30 k4 _ hR9 HL2.out
  have s3 := run_str (P := Try.prog) _ _ _ _ Try.underlying22 Try.underlying5 Try.underlying9 _ 30 k6 _ hR7 HL2.out
  generalize bs (build p) = y1 at *
  generalize bs (build p2) = y2 at *
  have hcm2 : ¬ y1.toList = y2.toList := by simpa using hcm
  clear c0 c1 c2 c3 c4 c5 c6 c7 c8 c9 c10 c11 c12 hP5 hpd5
  go_wp2_with fail
  go_ret
  exact ⟨by simp [hcm], hw6⟩
end Go.Proofs.Ytbhdjalpkecbeaa
