/- The walk of the document's Parse. -/
import Derived.Test.YtbhdjalpkecbeaaRefBuild
import Derived.Test.YtbhdjalpkecbeaaPParse
namespace Go.Proofs.Ytbhdjalpkecbeaa
set_option linter.unusedVariables false
set_option linter.unusedSimpArgs false
open Go.RowKit

set_option maxHeartbeats 800000 in
theorem rat_any (b : List UInt8) (A : Option Addr) (n c i : Nat) (i' : Int) (w : World) (hA : RB w A b) (hn : b.length = n) (hi : i + 1 < n) (hl : n ≤ 4000000) (ei : i' = (i : Int)) :
    Calls Try.prog 35 #[.slice A n c, .int .i64 i'] w fun e w' => e = .returned (.int .i64 (b2 b i : Int)) ∧ Below w.heap.size w w' := by
  subst hn ei
  obtain ⟨ad, rfl, c0⟩ := hA.at_ i (by omega)
  obtain ⟨ad', e, c1⟩ := hA.at_ (i + 1) (by omega)
  injection e with e
  subst e
  have e0 : b1 b i = b[i].toNat := by unfold b1; simp [List.getD, List.getElem?_eq_getElem (show i < b.length by omega)]
  have e1 : b1 b (i + 1) = b[i + 1].toNat := by unfold b1; simp [List.getD, List.getElem?_eq_getElem (show i + 1 < b.length by omega)]
  have HE : Hid (b2 b i = 256 * b[i].toNat + b[i + 1].toNat) := by show b2 b i = _; unfold b2; rw [e0, e1]
  clear e0 e1
  generalize b[i]'(by omega) = x at *
  generalize b[i + 1] = y at *
  rw [add_pos' ad (i + 1) (by omega)] at c1
  have hxl := x.toNat_lt
  have hyl := y.toNat_lt
  have w1 : IntKind.i64.wrap (x.toNat : Int) = (x.toNat : Int) := IntWalk.i64_in _ (by omega)
  have w2 : IntKind.i64.wrap (256 * (x.toNat : Int)) = 256 * (x.toNat : Int) := IntWalk.i64_in _ (by omega)
  have w3 : IntKind.i64.wrap (y.toNat : Int) = (y.toNat : Int) := IntWalk.i64_in _ (by omega)
  have w4 : IntKind.i64.wrap (256 * (x.toNat : Int) + (y.toNat : Int)) = (b2 b i : Int) := by rw [HE.out, IntWalk.i64_in _ (by omega)]; omega
  have i1 : (i : Int) < (b.length : Int) := by omega
  have i2 : (i : Int) + 1 < (b.length : Int) := by omega
  have i0 : (0 : Int) ≤ (i : Int) := by omega
  have i3 : (0 : Int) ≤ (i : Int) + 1 := by omega
  have i4 : ((i : Int) + 1).toNat = i + 1 := by omega
  have i5 : IntKind.i64.wrap ((i : Int) + 1) = (i : Int) + 1 := IntWalk.i64_in _ (by omega)
  go_enter Try.func35, Try.ntmps35
  go_wp2_with fail
  go_quiet (fail)
  go_wp2_with fail
  go_ret
  exact ⟨rfl, ⟨rfl, rfl, rfl, Nat.le_refl _, fun _ _ => rfl⟩⟩
theorem zst (P : Program) (w : World) : ∃ w7, (storeCells ⟨w.heap.size, 0, none⟩ (zeros).toList).run P (w.alloc (.cells zeros 52)) = .ok () w7 ∧ Blk w7 w.heap.size 52 (pkc pk0 none 0) ∧ Below w.heap.size w w7 := by
  refine ⟨_, store_new w zeros rfl zeros_one, ?_, below_row (below_al (Below.refl _ w) _) (Nat.le_refl _)⟩
  exact (Blk.new w 52 (pkc pk0 none 0)).row (pkc pk0 none 0)
set_option maxRecDepth 100000 in
set_option maxHeartbeats 3200000 in
theorem rparse_no (b : List UInt8) (A : Option Addr) (c : Nat) (w : World) (hA : RB w A b) (hc : b.length ≤ c) (hl : b.length ≤ 4000000) (h : ¬ Sh b) :
    Calls Try.prog 24 #[.slice A b.length c] w fun e w' => e = .returned (.tuple #[pkv pk0 none 0, .int .i64 2]) ∧ Below w.heap.size w w' := by
  have hb0 : Below w.heap.size w (w.alloc (.cells #[.int .i64 0, .int .i64 0, .int .i64 0, .int .i64 0, .int .u32 0, .int .i64 0, .int .u32 0, .int .i64 0, .int .u32 0, .int .u32 0, .int .i64 0, .int .i64 0, .slice none 0 0] 52)) := (Below.refl _ w).alloc (Nat.le_refl _) _
  have hG : Blk (w.alloc (.cells #[.int .i64 0, .int .i64 0, .int .i64 0, .int .i64 0, .int .u32 0, .int .i64 0, .int .u32 0, .int .i64 0, .int .u32 0, .int .u32 0, .int .i64 0, .int .i64 0, .slice none 0 0] 52)) w.heap.size 52 (pkc pk0 none 0) := Blk.new w _ _
  go_enter Try.func24, Try.ntmps24
  go_upto_region 2 with (fail)
  generalize w.alloc (.cells #[.int .i64 0, .int .i64 0, .int .i64 0, .int .i64 0, .int .u32 0, .int .i64 0, .int .u32 0, .int .i64 0, .int .u32 0, .int .u32 0, .int .i64 0, .int .i64 0, .slice none 0 0] 52) = wa at *
  have hgl : w.heap.size < wa.heap.size := hG.lt
  obtain ⟨cs, hcs⟩ : ∃ cs : Array Value, #[.int .i64 0, .int .i64 0, .int .i64 0, .int .i64 0, .int .u32 0, .int .i64 0, .int .u32 0, .int .i64 0, .int .u32 0, .int .u32 0, .int .i64 0, .int .i64 0, .slice none 0 0] = cs := ⟨_, rfl⟩
  have hsz : cs.size = 13 := by rw [← hcs]; rfl
  obtain ⟨wb, hst, hB, hbb⟩ := zst Try.prog wa
  rw [show zeros = #[.int .i64 0, .int .i64 0, .int .i64 0, .int .i64 0, .int .u32 0, .int .i64 0, .int .u32 0, .int .i64 0, .int .u32 0, .int .u32 0, .int .i64 0, .int .i64 0, .slice none 0 0] from rfl, hcs] at hst
  have hG2 := hG.kept hbb
  have hb2 := below_call hb0 hbb
  have hs2 := hbb.size
  generalize hg5 : wa.heap.size = g5 at *
  go_upto_region 3 with (fail)
  clear hbb hst
  obtain ⟨c0, c1, c2, c3, c4, c5, c6, c7, c8, c9, c10, c11, c12⟩ := blk13 hB
  have hst2 := store_at (P := Try.prog) cs hG2 (by rw [← hcs]; rfl) (by rw [← hcs]; exact zeros_one)
  have hB7 : Blk (wb.setRow w.heap.size cs) w.heap.size 52 (pkc pk0 none 0) := by
    rw [← hcs]
    exact hG2.row _
  have hb7 : Below w.heap.size w (wb.setRow w.heap.size cs) := below_row hb2 (Nat.le_refl _)
  generalize wb.setRow w.heap.size cs = w7 at *
  obtain ⟨n, hn⟩ : ∃ n, n = b.length := ⟨_, rfl⟩
  have HN := Lib.hid hn.symm
  have hcase : Hid (n < 28 ∨ (28 ≤ n ∧ 1500 < n) ∨ (28 ≤ n ∧ n ≤ 1500 ∧ b1 b 9 ≠ 17 ∧ b1 b 9 ≠ 6) ∨ (28 ≤ n ∧ n < 40 ∧ b1 b 9 = 6)) := by
    show _ ∨ _
    unfold Sh at h
    omega
  rw [← hn] at hc hl ⊢
  have hR := hA.below hb2
  clear hn h hB hG hG2
  rcases hcase.out with h | ⟨h, h2⟩ | ⟨h, h2, h3, h4⟩ | ⟨h, h2, h3⟩
  · have k1 : (n : Int) < 28 := by omega
    go_wp2_with fail
    (try clear c0 c1 c2 c3 c4 c5 c6 c7 c8 c9 c10 c11 c12)
    obtain ⟨c0, c1, c2, c3, c4, c5, c6, c7, c8, c9, c10, c11, c12⟩ := blk13 hB7
    (try simp only [Exit.inBlock, Exit.then])
    refine bodyPost_ret (by simp [results, Try.results24, go_sem, c0, c1, c2, c3, c4, c5, c6, c7, c8, c9, c10, c11, c12]; try rfl) rfl ?_
    exact ⟨rfl, hb7⟩
  · have k1 : ¬ (n : Int) < 28 := by omega
    have k2 : (1500 : Int) < (n : Int) := by omega
    go_wp2_with fail
    (try clear c0 c1 c2 c3 c4 c5 c6 c7 c8 c9 c10 c11 c12)
    obtain ⟨c0, c1, c2, c3, c4, c5, c6, c7, c8, c9, c10, c11, c12⟩ := blk13 hB7
    (try simp only [Exit.inBlock, Exit.then])
    refine bodyPost_ret (by simp [results, Try.results24, go_sem, c0, c1, c2, c3, c4, c5, c6, c7, c8, c9, c10, c11, c12]; try rfl) rfl ?_
    exact ⟨rfl, hb7⟩
  · have k1 : ¬ (n : Int) < 28 := by omega
    have k2 : ¬ (1500 : Int) < (n : Int) := by omega
    obtain ⟨ad, rfl, -⟩ := hR.at_ 0 (by rw [HN.out]; omega)
    have x9 := rb_b1 hR 9 (by rw [HN.out]; omega) (by omega)
    have k9 : (9 : Int) < (n : Int) := by omega
    have m1 : ((b1 b 9 : Int) == 17) = false := by simp; omega
    have m2 : ((b1 b 9 : Int) == 6) = false := by simp; omega
    have m3 : ((b1 b 9 : Int) != 17) = true := by simp; omega
    have m4 : ((b1 b 9 : Int) != 6) = true := by simp; omega
    clear h3 h4
    go_wp2_with fail
    (try clear c0 c1 c2 c3 c4 c5 c6 c7 c8 c9 c10 c11 c12)
    obtain ⟨c0, c1, c2, c3, c4, c5, c6, c7, c8, c9, c10, c11, c12⟩ := blk13 hB7
    (try simp only [Exit.inBlock, Exit.then])
    refine bodyPost_ret (by simp [results, Try.results24, go_sem, c0, c1, c2, c3, c4, c5, c6, c7, c8, c9, c10, c11, c12]; try rfl) rfl ?_
    exact ⟨rfl, hb7⟩
  · have k1 : ¬ (n : Int) < 28 := by omega
    have k2 : ¬ (1500 : Int) < (n : Int) := by omega
    have k3 : (n : Int) < 40 := by omega
    obtain ⟨ad, rfl, -⟩ := hR.at_ 0 (by rw [HN.out]; omega)
    have x9 := rb_b1 hR 9 (by rw [HN.out]; omega) (by omega)
    rw [h3, show ((6 : Nat) : Int) = 6 from rfl] at x9
    have k9 : (9 : Int) < (n : Int) := by omega
    clear h3
    go_wp2_with fail
    (try clear c0 c1 c2 c3 c4 c5 c6 c7 c8 c9 c10 c11 c12)
    obtain ⟨c0, c1, c2, c3, c4, c5, c6, c7, c8, c9, c10, c11, c12⟩ := blk13 hB7
    (try simp only [Exit.inBlock, Exit.then])
    refine bodyPost_ret (by simp [results, Try.results24, go_sem, c0, c1, c2, c3, c4, c5, c6, c7, c8, c9, c10, c11, c12]; try rfl) rfl ?_
    exact ⟨rfl, hb7⟩
theorem opt_if {α : Type} (P : Prop) [Decidable P] (a b : α) : ∃ A, (if P then a else b) = A := ⟨_, rfl⟩
/-- The packet under way behind the flow. -/
def RP8 (wa : World) (g : Nat) (b : List UInt8) (pr : Int) (wx : World) : Prop := Blk wx g 52 (pkc ⟨b1 b 1, b2 b 4, b1 b 8, ⟨pr, b4 b 12, b2 b 20, b4 b 16, b2 b 22⟩, 0, 0, 0, 0, []⟩ none 0) ∧ Below wa.heap.size wa wx
/-- What the document's Parse answers to bytes that may be a packet's. -/
def RPost (w : World) (b : List UInt8) (e : Ending) (w' : World) : Prop := ((IsPk b (opn b) ∧ ∃ B d, e = .returned (.tuple #[pkv (opn b) B d, .int .i64 0]) ∧ PkO w.heap.size w' B d (opn b)) ∨ (¬ IsPk b (opn b) ∧ e = .returned (.tuple #[pkv pk0 none 0, .int .i64 2]))) ∧ Below w.heap.size w w'
set_option maxRecDepth 100000 in
set_option maxHeartbeats 6400000 in
theorem rparse_udp (b : List UInt8) (ad : Addr) (c : Nat) (w : World) (hA : RB w (some ad) b) (hc : b.length ≤ c) (h1 : 28 ≤ b.length) (h2 : b.length ≤ 1500) (h9 : b1 b 9 = 17) :
    Calls Try.prog 24 #[.slice (some ad) b.length c] w fun e w' => RPost w b e w' := by
  obtain ⟨i0, hi, hz0, hz1, hz2⟩ := info_parts info_u8
  have hb0 : Below w.heap.size w (w.alloc (.cells #[.int .i64 0, .int .i64 0, .int .i64 0, .int .i64 0, .int .u32 0, .int .i64 0, .int .u32 0, .int .i64 0, .int .u32 0, .int .u32 0, .int .i64 0, .int .i64 0, .slice none 0 0] 52)) := (Below.refl _ w).alloc (Nat.le_refl _) _
  have hG : Blk (w.alloc (.cells #[.int .i64 0, .int .i64 0, .int .i64 0, .int .i64 0, .int .u32 0, .int .i64 0, .int .u32 0, .int .i64 0, .int .u32 0, .int .u32 0, .int .i64 0, .int .i64 0, .slice none 0 0] 52)) w.heap.size 52 (pkc pk0 none 0) := Blk.new w _ _
  go_enter Try.func24, Try.ntmps24
  go_upto_region 2 with (fail)
  generalize w.alloc (.cells #[.int .i64 0, .int .i64 0, .int .i64 0, .int .i64 0, .int .u32 0, .int .i64 0, .int .u32 0, .int .i64 0, .int .u32 0, .int .u32 0, .int .i64 0, .int .i64 0, .slice none 0 0] 52) = wa at *
  have hgl : w.heap.size < wa.heap.size := hG.lt
  obtain ⟨cs, hcs⟩ : ∃ cs : Array Value, #[.int .i64 0, .int .i64 0, .int .i64 0, .int .i64 0, .int .u32 0, .int .i64 0, .int .u32 0, .int .i64 0, .int .u32 0, .int .u32 0, .int .i64 0, .int .i64 0, .slice none 0 0] = cs := ⟨_, rfl⟩
  have hsz : cs.size = 13 := by rw [← hcs]; rfl
  obtain ⟨wb, hst, hB, hbb⟩ := zst Try.prog wa
  rw [show zeros = #[.int .i64 0, .int .i64 0, .int .i64 0, .int .i64 0, .int .u32 0, .int .i64 0, .int .u32 0, .int .i64 0, .int .u32 0, .int .u32 0, .int .i64 0, .int .i64 0, .slice none 0 0] from rfl, hcs] at hst
  have hAa := hA.below hb0
  have hs2 := hbb.size
  have hcu := hbb
  go_upto_region 3 with (fail)
  clear hst hcs hsz
  obtain ⟨n, hn⟩ : ∃ n, n = b.length := ⟨_, rfl⟩
  have HN := Lib.hid hn.symm
  rw [← hn] at hc h1 h2 ⊢
  clear hn
  have i1 := b1_lt b 1
  have i8 := b1_lt b 8
  have x1 := rb_b1 hAa 1 (by rw [HN.out]; omega) (by omega)
  have x8 := rb_b1 hAa 8 (by rw [HN.out]; omega) (by omega)
  have x9 := rb_b1 hAa 9 (by rw [HN.out]; omega) (by omega)
  rw [h9, show ((17 : Nat) : Int) = 17 from rfl] at x9
  have had : ad.block < wa.heap.size := by have h := World.block_lt_of_cell? _ _ x1; exact h
  have hne1 : ¬ ad.block = wa.heap.size := by omega
  have hne2 : ¬ wa.heap.size = ad.block := by omega
  have k1 : (1 : Int) < (n : Int) := by omega
  have k8 : (8 : Int) < (n : Int) := by omega
  have k9 : (9 : Int) < (n : Int) := by omega
  have k28 : ¬ (n : Int) < 28 := by omega
  have k15 : ¬ (1500 : Int) < (n : Int) := by omega
  have k40 : True := trivial
  have q1 : IntKind.i64.wrap (b1 b 1 : Int) = (b1 b 1 : Int) := IntWalk.i64_in _ (by omega)
  have q8 : IntKind.i64.wrap (b1 b 8 : Int) = (b1 b 8 : Int) := IntWalk.i64_in _ (by omega)
  have H9 := Lib.hid h9
  have hg5l : wa.heap.size ≤ wa.heap.size := by omega
  clear h9
  have z1 := keep1 hcu x1
  have z9 := keep1 hcu x9
  obtain ⟨c0, c1, c2, c3, c4, c5, c6, c7, c8, c9, c10, c11, c12⟩ := blk13 hB
  have f0 := hB.frozen 0
  go_wp2_with fail
  have hcu' : Below wa.heap.size wa wb := hcu
  have hB1 : Blk (wb.setCell ⟨wa.heap.size, 0, none⟩ (.int .i64 (b1 b 1 : Int))) wa.heap.size 52 (pkc ⟨b1 b 1, 0, 0, ⟨0, 0, 0, 0, 0⟩, 0, 0, 0, 0, []⟩ none 0) := hB.set_ 0 _
  have hcc : Below wa.heap.size wa (wb.setCell ⟨wa.heap.size, 0, none⟩ (.int .i64 (b1 b 1 : Int))) := hcu'.setCell (show wa.heap.size ≤ wa.heap.size by omega) _
  generalize wb.setCell ⟨wa.heap.size, 0, none⟩ (.int .i64 (b1 b 1 : Int)) = wc at *
  (with_reducible refine (rat_any b (some ad) n c 4 4 wc (hAa.below hcc) HN.out (by omega) (by omega) rfl).mono ?_)
  rintro e wd ⟨rfl, hbd⟩
  have hBd := hB1.kept hbd
  have hcd := below_call hcc hbd
  clear hB hB1 hcc hbd hcu' hcu hbb f0 z1 z9 c0 c1 c2 c3 c4 c5 c6 c7 c8 c9 c10 c11 c12
  obtain ⟨c0, c1, c2, c3, c4, c5, c6, c7, c8, c9, c10, c11, c12⟩ := blk13 hBd
  have f1 := hBd.frozen 1
  have f2 := hBd.frozen 2
  have z8 := keep1 hcd x8
  go_upto_region 8 with (fail)
  have hBe : Blk ((wd.setCell ⟨wa.heap.size, 1, none⟩ (.int .i64 (b2 b 4 : Int))).setCell ⟨wa.heap.size, 2, none⟩ (.int .i64 (b1 b 8 : Int))) wa.heap.size 52 (pkc ⟨b1 b 1, b2 b 4, b1 b 8, ⟨0, 0, 0, 0, 0⟩, 0, 0, 0, 0, []⟩ none 0) := (hBd.set_ 1 _).set_ 2 _
  have hce : Below wa.heap.size wa ((wd.setCell ⟨wa.heap.size, 1, none⟩ (.int .i64 (b2 b 4 : Int))).setCell ⟨wa.heap.size, 2, none⟩ (.int .i64 (b1 b 8 : Int))) := (hcd.setCell (show wa.heap.size ≤ wa.heap.size by omega) _).setCell (show wa.heap.size ≤ wa.heap.size by omega) _
  generalize (wd.setCell ⟨wa.heap.size, 1, none⟩ (.int .i64 (b2 b 4 : Int))).setCell ⟨wa.heap.size, 2, none⟩ (.int .i64 (b1 b 8 : Int)) = we at *
  clear hBd hcd f1 f2 z8 x1 x8 k1 k8 q1 q8 i1 i8 c0 c1 c2 c3 c4 c5 c6 c7 c8 c9 c10 c11 c12
  go_cut [] (fun wx => RP8 wa wa.heap.size b 17 wx)
  case first =>
    have hcur : Below wa.heap.size wa we.drew := Below.drew hce
    have hBf : Blk we.drew wa.heap.size 52 (pkc ⟨b1 b 1, b2 b 4, b1 b 8, ⟨0, 0, 0, 0, 0⟩, 0, 0, 0, 0, []⟩ none 0) := hBe
    obtain ⟨fs, hfs⟩ : ∃ fs : Array Value, #[.int .i64 17, .int .u32 (b4 b 12 : Int), .int .i64 (b2 b 20 : Int), .int .u32 (b4 b 16 : Int), .int .i64 (b2 b 22 : Int)] = fs := ⟨_, rfl⟩
    have hsz : fs.size = 5 := by rw [← hfs]; rfl
    have hsl : fs.toList.length = 5 := by rw [← hfs]; rfl
    have hone : ∀ v ∈ fs.toList, v.oneCell' = true := by rw [← hfs]; simp [Value.oneCell']
    have Hone := Lib.hid hone
    clear hone
    have qpr : IntKind.i64.wrap 17 = 17 := by decide
    have l12 := b2_lt b 12
    have l14 := b2_lt b 14
    have l16 := b2_lt b 16
    have l18 := b2_lt b 18
    have e12 : (b2 b 12 : Int) * 65536 + (b2 b 14 : Int) = (b4 b 12 : Int) := by unfold b4; show _ = ((b2 b 12 * 65536 + b2 b 14 : Nat) : Int); omega
    have e16 : (b2 b 16 : Int) * 65536 + (b2 b 18 : Int) = (b4 b 16 : Int) := by unfold b4; show _ = ((b2 b 16 * 65536 + b2 b 18 : Nat) : Int); omega
    have u1 : IntKind.i64.wrap ((b2 b 12 : Int) * 65536) = (b2 b 12 : Int) * 65536 := IntWalk.i64_in _ (by omega)
    have u2 : IntKind.i64.wrap ((b2 b 16 : Int) * 65536) = (b2 b 16 : Int) * 65536 := IntWalk.i64_in _ (by omega)
    have u3 : IntKind.i64.wrap (b4 b 12 : Int) = (b4 b 12 : Int) := IntWalk.i64_in _ (by omega)
    have u4 : IntKind.i64.wrap (b4 b 16 : Int) = (b4 b 16 : Int) := IntWalk.i64_in _ (by omega)
    have u5 : IntKind.u32.wrap (b4 b 12 : Int) = (b4 b 12 : Int) := IntWalk.u32_in _ (by omega)
    have u6 : IntKind.u32.wrap (b4 b 16 : Int) = (b4 b 16 : Int) := IntWalk.u32_in _ (by omega)
    clear l12 l14 l16 l18
    go_region_held3 (fun w' => w'.cell? ⟨ad.block, ad.off + 9, none⟩ = some (.int .u8 17))
      (first | with_reducible exact keep1 hcur x9 | with_reducible exact keep1 (hb7 hcur hg5l) x9)
      (first
        | (go_at_call 35; (with_reducible refine (rat_any b (some ad) n c 12 12 _ (hAa.below hcur) HN.out (by omega) (by omega) rfl).mono ?_); rintro e w6 ⟨rfl, hb6⟩; replace hcur := below_call hcur hb6; replace hBf := hBf.kept hb6; obtain ⟨w7, hst, hB7, hb7⟩ := store_fl (P := Try.prog) fs hBf hsl Hone.out)
        | (go_at_call 35; (with_reducible refine (rat_any b (some ad) n c 14 14 _ (hAa.below hcur) HN.out (by omega) (by omega) rfl).mono ?_); rintro e w6 ⟨rfl, hb6⟩; replace hcur := below_call hcur hb6; replace hBf := hBf.kept hb6; obtain ⟨w7, hst, hB7, hb7⟩ := store_fl (P := Try.prog) fs hBf hsl Hone.out)
        | (go_at_call 35; (with_reducible refine (rat_any b (some ad) n c 20 20 _ (hAa.below hcur) HN.out (by omega) (by omega) rfl).mono ?_); rintro e w6 ⟨rfl, hb6⟩; replace hcur := below_call hcur hb6; replace hBf := hBf.kept hb6; obtain ⟨w7, hst, hB7, hb7⟩ := store_fl (P := Try.prog) fs hBf hsl Hone.out)
        | (go_at_call 35; (with_reducible refine (rat_any b (some ad) n c 16 16 _ (hAa.below hcur) HN.out (by omega) (by omega) rfl).mono ?_); rintro e w6 ⟨rfl, hb6⟩; replace hcur := below_call hcur hb6; replace hBf := hBf.kept hb6; obtain ⟨w7, hst, hB7, hb7⟩ := store_fl (P := Try.prog) fs hBf hsl Hone.out)
        | (go_at_call 35; (with_reducible refine (rat_any b (some ad) n c 18 18 _ (hAa.below hcur) HN.out (by omega) (by omega) rfl).mono ?_); rintro e w6 ⟨rfl, hb6⟩; replace hcur := below_call hcur hb6; replace hBf := hBf.kept hb6; obtain ⟨w7, hst, hB7, hb7⟩ := store_fl (P := Try.prog) fs hBf hsl Hone.out)
        | (go_at_call 35; (with_reducible refine (rat_any b (some ad) n c 22 22 _ (hAa.below hcur) HN.out (by omega) (by omega) rfl).mono ?_); rintro e w6 ⟨rfl, hb6⟩; replace hcur := below_call hcur hb6; replace hBf := hBf.kept hb6; obtain ⟨w7, hst, hB7, hb7⟩ := store_fl (P := Try.prog) fs hBf hsl Hone.out))
    all_goals
      go_wp2_with fail
      go_meet
      rw [← hfs] at hB7
      exact ⟨hB7, hb7 hcur hg5l⟩
  case rest =>
    obtain ⟨hBz, hcz⟩ := id hcut
    clear hcut hBe hce
    obtain ⟨wz, hwz⟩ : ∃ x, x = wc := ⟨_, rfl⟩
    subst hwz
    obtain ⟨c0, c1, c2, c3, c4, c5, c6, c7, c8, c9, c10, c11, c12⟩ := blk13 hBz
    have z9 := keep1 hcz x9
    have hsz := hcz.size
    have lH : (b.drop 28).length = n - 28 := by rw [List.length_drop, HN.out]
    have nH : (28 : Int) ≤ (n : Int) := by omega
    have nHc : (28 : Int) ≤ (c : Int) := by omega
    have nc : (n : Int) ≤ (c : Int) := by omega
    have eH : (n : Int).toNat - 28 = n - 28 := by omega
    have hRd : ∃ A, (if c = 28 then some ad else some (⟨ad.block, ad.off + 28, none⟩ : Addr)) = A ∧ RB wz A (b.drop 28) := by
      refine ⟨_, rfl, ?_⟩
      have h := (hAa.below hcz).drop_ HN.out 28 (by omega) hc
      rw [Option.map_some, add_pos' _ 28 (by omega)] at h
      exact h
    obtain ⟨R0, hR0, hRd⟩ := hRd
    have hbl : Below wz.heap.size wz (wz.alloc (.cells #[] 5)) := (Below.refl _ wz).alloc (Nat.le_refl _) _
    go_wp2_with (at_builtin; refine wl_app _ rfl (.tmp 102) (.tmp 105) 22 rfl wz.heap.size 5 i0 (.int .u8 0) 1 1 Try.underlying22 hi hz0 hz1 hz2 rfl (by omega) _ _ _ rfl (own_empty wz wz.heap.size 5 wz.heap.size rfl (Nat.le_refl _)) R0 (n - 28) (c - 28) ((b.drop 28).map bv) rfl (by rw [List.length_map, lH]; omega) (RB.below hRd hbl) (one_bv _) (by unfold maxLen; omega) (by omega) (by simp) ?_)
    intro v5 w5 hO5 hg5' _
    have hb5 : Below wz.heap.size wz w5 := hbl.grown hg5' (by simp) (fun g hg => by simp [Value.ownBlock] at hg; omega)
    have hBv := hBz.kept hb5
    have hcv := below_call hcz hb5
    obtain ⟨R, k, rfl, hRk, -, -⟩ := own_form hO5
    have hgz : wa.heap.size < wz.heap.size := hBz.lt
    have HO5 := Lib.hid hO5
    clear hBz hcz hb5 hbl hRd hg5' hO5 z9 c0 c1 c2 c3 c4 c5 c6 c7 c8 c9 c10 c11 c12
    obtain ⟨c0, c1, c2, c3, c4, c5, c6, c7, c8, c9, c10, c11, c12⟩ := blk13 hBv
    have f12 := hBv.frozen 12
    go_upto_region 17 with (fail)
    have e28 : n - 28 = (b.drop 28).length := lH.symm
    have hQ : opn b = ⟨b1 b 1, b2 b 4, b1 b 8, ⟨17, b4 b 12, b2 b 20, b4 b 16, b2 b 22⟩, 0, 0, 0, 0, b.drop 28⟩ := by
      unfold opn
      rw [H9.out]
      rfl
    have hB6 : Blk (w5.setCell ⟨wa.heap.size, 12, none⟩ (.slice R (n - 28) k)) wa.heap.size 52 (pkc (opn b) R k) := by
      rw [hQ, e28]
      exact hBv.set_ 12 _
    have HO6 : Hid (PkO wz.heap.size (w5.setCell ⟨wa.heap.size, 12, none⟩ (.slice R (n - 28) k)) R k (opn b)) := by
      show PkO _ _ _ _ _
      unfold PkO
      rw [congrArg Pk.data hQ, ← e28]
      have h := own_set (i := 12) (u := .slice R (n - 28) k) hgz HO5.out
      rw [← List.map_drop] at h
      exact h
    have hc6 : Below wa.heap.size wa (w5.setCell ⟨wa.heap.size, 12, none⟩ (.slice R (n - 28) k)) := hcv.setCell (show wa.heap.size ≤ wa.heap.size by omega) _
    generalize w5.setCell ⟨wa.heap.size, 12, none⟩ (.slice R (n - 28) k) = w6 at *
    clear hQ hBv hcv f12 HO5 e28 lH c0 c1 c2 c3 c4 c5 c6 c7 c8 c9 c10 c11 c12
    have hG6 := hG.kept hc6
    have hb6 := below_call hb0 hc6
    have hA6 := hAa.below hc6
    have HU := Lib.hid (opn_u32 b)
    generalize hpe : opn b = p at *
    have HPE := Lib.hid hpe
    clear hpe
    obtain ⟨c0, c1, c2, c3, c4, c5, c6, c7, c8, c9, c10, c11, c12⟩ := blk13 hB6
    by_cases hg : GoodP p
    rotate_left
    · have HG := Lib.hid hg
      clear hg
      go_wp2_with fail
      (with_reducible refine (rbuild_bad p R k w6 HG.out).mono ?_)
      rintro e w8 ⟨rfl, hb8⟩
      have hG8 := hG6.kept hb8
      have hbb := below_call hb6 hb8
      have HNO : Hid (¬ IsPk b p) := fun h => HG.out h.1
      clear hG6 hB6 hb8 c0 c1 c2 c3 c4 c5 c6 c7 c8 c9 c10 c11 c12
      obtain ⟨cs, hcs⟩ : ∃ cs : Array Value, #[.int .i64 0, .int .i64 0, .int .i64 0, .int .i64 0, .int .u32 0, .int .i64 0, .int .u32 0, .int .i64 0, .int .u32 0, .int .u32 0, .int .i64 0, .int .i64 0, .slice none 0 0] = cs := ⟨_, rfl⟩
      have hsz2 : cs.size = 13 := by rw [← hcs]; rfl
      have hst := store_at (P := Try.prog) cs hG8 (by rw [← hcs]; rfl) (by rw [← hcs]; exact zeros_one)
      have hB7 : Blk (w8.setRow w.heap.size cs) w.heap.size 52 (pkc pk0 none 0) := by
        rw [← hcs]
        exact hG8.row _
      have hb7 : Below w.heap.size w (w8.setRow w.heap.size cs) := below_row hbb (Nat.le_refl _)
      generalize w8.setRow w.heap.size cs = w7 at *
      go_wp2_with fail
      (try clear c0 c1 c2 c3 c4 c5 c6 c7 c8 c9 c10 c11 c12)
      obtain ⟨c0, c1, c2, c3, c4, c5, c6, c7, c8, c9, c10, c11, c12⟩ := blk13 hB7
      (try simp only [Exit.inBlock, Exit.then])
      refine bodyPost_ret (by simp [results, Try.results24, go_sem, c0, c1, c2, c3, c4, c5, c6, c7, c8, c9, c10, c11, c12]; try rfl) rfl ?_
      refine ⟨.inr ⟨?_, rfl⟩, hb7⟩
      rw [HPE.out]
      exact HNO.out
    have HG := Lib.hid hg
    clear hg
    go_wp2_with fail
    (with_reducible refine (rbuild_good p R k w6 HO6.out.pkd HG.out HU.out).mono ?_)
    rintro e w8 ⟨v8, rfl, hO8, hb8⟩
    obtain ⟨A8, k8, rfl, -, hR8, -⟩ := own_form hO8
    replace hR8 : RB w8 A8 (build p) := hR8
    have hG8 := hG6.kept hb8
    have hB8 := hB6.kept hb8
    have HO8 := Lib.hid (HO6.out.below hb8)
    have hbb := below_call hb6 hb8
    have hA8 := hA6.below hb8
    have HBQ : Hid (build p = build p) := rfl
    clear hG6 hB6 HO6 hb8 hO8 c0 c1 c2 c3 c4 c5 c6 c7 c8 c9 c10 c11 c12
    by_cases hq : build p = b
    · have HIP : Hid (IsPk b p) := ⟨HG.out, HU.out, hq⟩
      rw [hq] at hR8 ⊢
      rw [HN.out]
      clear hq HBQ
      have s1 := run_str (P := Try.prog) _ _ _ _ Try.underlying22 Try.underlying5 Try.underlying9 _ n k8 _ hR8 HN.out
      have s2 := run_str (P := Try.prog) _ _ _ _ Try.underlying22 Try.underlying5 Try.underlying9 _ n c _ hA8 HN.out
      obtain ⟨c0, c1, c2, c3, c4, c5, c6, c7, c8, c9, c10, c11, c12⟩ := blk13 hB8
      obtain ⟨cs, hcs⟩ : ∃ cs : Array Value, #[.int .i64 p.tos, .int .i64 p.id, .int .i64 p.ttl, .int .i64 p.fl.proto, .int .u32 p.fl.src, .int .i64 p.fl.sp, .int .u32 p.fl.dst, .int .i64 p.fl.dp, .int .u32 p.seq, .int .u32 p.ack, .int .i64 p.flags, .int .i64 p.win, .slice R p.data.length k] = cs := ⟨_, rfl⟩
      have hsz2 : cs.size = 13 := by rw [← hcs]; rfl
      have hst := store_at (P := Try.prog) cs hG8 (by rw [← hcs]; rfl) (by rw [← hcs]; exact pkc_one p R k)
      have hB7 : Blk (w8.setRow w.heap.size cs) w.heap.size 52 (pkc p R k) := by
        rw [← hcs]
        exact hG8.row _
      have HO7 : Hid (PkO wz.heap.size (w8.setRow w.heap.size cs) R k p) := own_row (g := w.heap.size) (c := cs) (by omega) HO8.out
      have hb7 : Below w.heap.size w (w8.setRow w.heap.size cs) := below_row hbb (Nat.le_refl _)
      generalize w8.setRow w.heap.size cs = w7 at *
      go_wp2_with fail
      (try clear c0 c1 c2 c3 c4 c5 c6 c7 c8 c9 c10 c11 c12)
      obtain ⟨c0, c1, c2, c3, c4, c5, c6, c7, c8, c9, c10, c11, c12⟩ := blk13 hB7
      (try simp only [Exit.inBlock, Exit.then])
      refine bodyPost_ret (by simp [results, Try.results24, go_sem, c0, c1, c2, c3, c4, c5, c6, c7, c8, c9, c10, c11, c12]; try rfl) rfl ?_
      refine ⟨.inl ⟨?_, R, k, ?_, ?_⟩, hb7⟩
      · rw [HPE.out]; exact HIP.out
      · rw [HPE.out]
      · rw [HPE.out]; exact HO7.out.weaken (by omega)
    · have HNO : Hid (¬ IsPk b p) := fun h => hq h.2.2
      have hcm := beq_bs (build p) b
      rw [decide_eq_false hq] at hcm
      clear hq HBQ
      generalize build p = xq at *
      have s1 := run_str (P := Try.prog) _ _ _ _ Try.underlying22 Try.underlying5 Try.underlying9 _ _ k8 _ hR8 rfl
      have s2 := run_str (P := Try.prog) _ _ _ _ Try.underlying22 Try.underlying5 Try.underlying9 _ n c _ hA8 HN.out
      generalize bs xq = y1 at *
      generalize bs b = y2 at *
      obtain ⟨cs, hcs⟩ : ∃ cs : Array Value, #[.int .i64 0, .int .i64 0, .int .i64 0, .int .i64 0, .int .u32 0, .int .i64 0, .int .u32 0, .int .i64 0, .int .u32 0, .int .u32 0, .int .i64 0, .int .i64 0, .slice none 0 0] = cs := ⟨_, rfl⟩
      have hsz2 : cs.size = 13 := by rw [← hcs]; rfl
      have hst := store_at (P := Try.prog) cs hG8 (by rw [← hcs]; rfl) (by rw [← hcs]; exact zeros_one)
      have hB7 : Blk (w8.setRow w.heap.size cs) w.heap.size 52 (pkc pk0 none 0) := by
        rw [← hcs]
        exact hG8.row _
      have hb7 : Below w.heap.size w (w8.setRow w.heap.size cs) := below_row hbb (Nat.le_refl _)
      generalize w8.setRow w.heap.size cs = w7 at *
      go_wp2_with fail
      (try clear c0 c1 c2 c3 c4 c5 c6 c7 c8 c9 c10 c11 c12)
      obtain ⟨c0, c1, c2, c3, c4, c5, c6, c7, c8, c9, c10, c11, c12⟩ := blk13 hB7
      (try simp only [Exit.inBlock, Exit.then])
      refine bodyPost_ret (by simp [results, Try.results24, go_sem, c0, c1, c2, c3, c4, c5, c6, c7, c8, c9, c10, c11, c12]; try rfl) rfl ?_
      refine ⟨.inr ⟨?_, rfl⟩, hb7⟩
      rw [HPE.out]
      exact HNO.out
end Go.Proofs.Ytbhdjalpkecbeaa
