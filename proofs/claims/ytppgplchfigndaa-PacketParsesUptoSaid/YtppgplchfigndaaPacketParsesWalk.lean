/- The walk of PacketParses. -/
import Derived.Test.YtppgplchfigndaaRefPParseT
import Derived.Test.YtppgplchfigndaaPFlow
import Derived.Test.YtppgplchfigndaaOver
import Derived.Test.YtppgplchfigndaaPAlive
namespace Go.Proofs.Ytppgplchfigndaa
set_option linter.unusedVariables false
set_option linter.unusedSimpArgs false
open Go.RowKit

theorem store5n {P : Program} (w : World) (cs : Array Value) (hl : cs.toList.length = 5) (h1 : ∀ v ∈ cs.toList, v.oneCell' = true) :
    (storeCells ⟨w.heap.size, 0, none⟩ cs.toList).run P (w.alloc (.cells #[.int .i64 0, .int .u32 0, .int .i64 0, .int .u32 0, .int .i64 0] 25)) = .ok () ((w.alloc (.cells #[.int .i64 0, .int .u32 0, .int .i64 0, .int .u32 0, .int .i64 0] 25)).setRow w.heap.size cs) := by
  have h := store_all (P := P) (cs := cs.toList) (Blk.new w 25 (flc fl0)) hl.symm h1
  simpa [flc, fl0] using h
theorem pkd_none {w : World} {q : Pk} (h : q.data = []) : PkD w none 0 q := ⟨by rw [h]; exact Nat.le_refl _, fun j u hu => by rw [h] at hu; simp at hu⟩
theorem rparse_n (b : List UInt8) (A : Option Addr) (n c : Nat) (w : World) (hn : b.length = n) (hA : RB w A b) (hc : n ≤ c) (hl : n ≤ 4000000) :
    Calls Try.prog 20 #[.slice A n c] w fun e w' => RPost w b e w' := by
  subst hn
  exact rparse_any b A c w hA hc hl
theorem kept_n (xs : List UInt8) (g : Nat) (A : Option Addr) (n c : Nat) (w : World) (hn : xs.length = n) (hA : RB w A xs) (hg : Blk w g 5 ((marked xs).map bv)) (hl : n ≤ 4000000) :
    Calls Try.prog 15 #[.slice (some ⟨g, 0, none⟩) n (n + 2), .slice A n c] w fun e w' => e = .returned (.bool true) ∧ Below w.heap.size w w' := by
  subst hn
  exact kept_any xs g A c w hA hg hl
set_option maxRecDepth 100000 in
set_option maxHeartbeats 6400000 in
theorem PacketParses_walk (b : List UInt8) (A : Option Addr) (c : Nat) (w : World) (hc : b.length ≤ c) (hA : RB w A b) (hbl : b.length ≤ 1048576) :
    Calls Try.prog 8 #[.slice A b.length c] w fun e w' => e = .returned (.bool true) ∧ Below w.heap.size w w' := by
  go_enter Try.func8, Try.ntmps8
  go_wp2_with fail
  (with_reducible refine (alive_any w).mono ?_)
  rintro e w1 ⟨rfl, hw1⟩
  have hs1 := hw1.size
  go_wp2_with fail
  (with_reducible refine (copy_any b A c w1 (hA.below hw1) hc (by omega)).mono ?_)
  rintro e w2 ⟨gd, rfl, hgd, hK2, hb2⟩
  have hw2 := below_call hw1 hb2
  have hs2 := hb2.size
  have hgd2 := hK2.lt
  clear hb2 hw1
  obtain ⟨n, hn⟩ : ∃ n, n = b.length := ⟨_, rfl⟩
  rw [← hn] at hc hbl ⊢
  have HN := Lib.hid hn.symm
  clear hn
  by_cases hI : IsPk b (opn b)
  · have HI := Lib.hid hI
    clear hI
    go_wp2_with fail
    (with_reducible refine (parse_n b (opn b) (some ⟨gd, 0, none⟩) n (n + 2) w2 HN.out (marked_rb hK2) (by omega) HI.out).mono ?_)
    rintro e w3 ⟨B1, d1, rfl, HO, hb3⟩
    obtain ⟨q, hq⟩ : ∃ q, q = opn b := ⟨_, rfl⟩
    have HQ := Lib.hid hq
    rw [← hq] at HO ⊢
    clear hq
    obtain ⟨cs, hcs⟩ : ∃ cs : Array Value, #[.int .i64 q.tos, .int .i64 q.id, .int .i64 q.ttl, .int .i64 q.fl.proto, .int .u32 q.fl.src, .int .i64 q.fl.sp, .int .u32 q.fl.dst, .int .i64 q.fl.dp, .int .u32 q.seq, .int .u32 q.ack, .int .i64 q.flags, .int .i64 q.win, .slice B1 q.data.length d1] = cs := ⟨_, rfl⟩
    have hsz : cs.size = 13 := by rw [← hcs]; rfl
    have hsl : cs.toList.length = 13 := by rw [← hcs]; rfl
    have hone : ∀ v ∈ cs.toList, v.oneCell' = true := by rw [← hcs]; exact pkc_one q B1 d1
    have hst := store_new (P := Try.prog) w3 cs hsl hone
    have hN : Below w3.heap.size w3 ((w3.alloc (.cells #[.int .i64 0, .int .i64 0, .int .i64 0, .int .i64 0, .int .u32 0, .int .i64 0, .int .u32 0, .int .i64 0, .int .u32 0, .int .u32 0, .int .i64 0, .int .i64 0, .slice none 0 0] 28)).setRow w3.heap.size cs) := below_row (below_al (Below.refl _ w3) _) (Nat.le_refl _)
    have hBa : Blk ((w3.alloc (.cells #[.int .i64 0, .int .i64 0, .int .i64 0, .int .i64 0, .int .u32 0, .int .i64 0, .int .u32 0, .int .i64 0, .int .u32 0, .int .u32 0, .int .i64 0, .int .i64 0, .slice none 0 0] 28)).setRow w3.heap.size cs) w3.heap.size 28 (pkc q B1 d1) := by rw [← hcs]; exact (Blk.new w3 28 (pkc pk0 none 0)).row (pkc q B1 d1)
    have HOa := Lib.hid (HO.below hN)
    clear HO
    have hCa := below_call hb3 hN
    have hza := hb3.size
    clear hone hN
    generalize hga : w3.heap.size = g4 at *
    go_upto_region 5 with (fail)
    generalize (w3.alloc (.cells #[.int .i64 0, .int .i64 0, .int .i64 0, .int .i64 0, .int .u32 0, .int .i64 0, .int .u32 0, .int .i64 0, .int .u32 0, .int .u32 0, .int .i64 0, .int .i64 0, .slice none 0 0] 28)).setRow g4 cs = w4 at *
    clear hcs hsz hsl hst hb3
    have hK4 := hK2.kept hCa
    have hw4 := below_call hw2 hCa
    have hs4 := hCa.size
    clear hK2 hCa
    go_wp2_with fail
    (with_reducible refine (rparse_n b A n c w4 HN.out (hA.below hw4) hc (by omega)).mono ?_)
    rintro e w5 ⟨hcase, hb5⟩
    have HCA := Lib.hid hcase
    clear hcase
    rcases HCA.out with ⟨-, B2, d2, rfl, HO⟩ | ⟨hno, -⟩
    rotate_left
    · exact absurd HI.out hno
    clear HCA
    rw [← HQ.out] at HO ⊢
    obtain ⟨cs, hcs⟩ : ∃ cs : Array Value, #[.int .i64 q.tos, .int .i64 q.id, .int .i64 q.ttl, .int .i64 q.fl.proto, .int .u32 q.fl.src, .int .i64 q.fl.sp, .int .u32 q.fl.dst, .int .i64 q.fl.dp, .int .u32 q.seq, .int .u32 q.ack, .int .i64 q.flags, .int .i64 q.win, .slice B2 q.data.length d2] = cs := ⟨_, rfl⟩
    have hsz : cs.size = 13 := by rw [← hcs]; rfl
    have hsl : cs.toList.length = 13 := by rw [← hcs]; rfl
    have hone : ∀ v ∈ cs.toList, v.oneCell' = true := by rw [← hcs]; exact pkc_one q B2 d2
    have hst := store_new (P := Try.prog) w5 cs hsl hone
    have hN : Below w5.heap.size w5 ((w5.alloc (.cells #[.int .i64 0, .int .i64 0, .int .i64 0, .int .i64 0, .int .u32 0, .int .i64 0, .int .u32 0, .int .i64 0, .int .u32 0, .int .u32 0, .int .i64 0, .int .i64 0, .slice none 0 0] 28)).setRow w5.heap.size cs) := below_row (below_al (Below.refl _ w5) _) (Nat.le_refl _)
    have hBb : Blk ((w5.alloc (.cells #[.int .i64 0, .int .i64 0, .int .i64 0, .int .i64 0, .int .u32 0, .int .i64 0, .int .u32 0, .int .i64 0, .int .u32 0, .int .u32 0, .int .i64 0, .int .i64 0, .slice none 0 0] 28)).setRow w5.heap.size cs) w5.heap.size 28 (pkc q B2 d2) := by rw [← hcs]; exact (Blk.new w5 28 (pkc pk0 none 0)).row (pkc q B2 d2)
    have HOb := Lib.hid (HO.below hN)
    clear HO
    have hCb := below_call hb5 hN
    have hzb := hb5.size
    clear hone hN
    generalize hgb : w5.heap.size = g6 at *
    go_upto_region 6 with (fail)
    generalize (w5.alloc (.cells #[.int .i64 0, .int .i64 0, .int .i64 0, .int .i64 0, .int .u32 0, .int .i64 0, .int .u32 0, .int .i64 0, .int .u32 0, .int .u32 0, .int .i64 0, .int .i64 0, .slice none 0 0] 28)).setRow g6 cs = w6 at *
    clear hcs hsz hsl hst hb5
    have hK6 := hK4.kept hCb
    have hB6 := hBa.kept hCb
    have hw6 := below_call hw4 hCb
    have hs6 := hCb.size
    have HOa6 := Lib.hid (HOa.out.below hCb)
    clear HOa
    clear hK4 hBa hCb hw4
    go_wp2_with fail
    (with_reducible refine (flow_good b q (some ⟨gd, 0, none⟩) n (n + 2) w6 HN.out (marked_rb hK6) (by omega) (by rw [HQ.out]; exact HI.out)).mono ?_)
    rintro e w7 ⟨rfl, hb7⟩
    obtain ⟨fs, hfs⟩ : ∃ fs : Array Value, #[.int .i64 q.fl.proto, .int .u32 q.fl.src, .int .i64 q.fl.sp, .int .u32 q.fl.dst, .int .i64 q.fl.dp] = fs := ⟨_, rfl⟩
    have hsz : fs.size = 5 := by rw [← hfs]; rfl
    have hst := store5n (P := Try.prog) w7 fs (by rw [← hfs]; rfl) (by rw [← hfs]; exact fl_one q.fl)
    have hF8 : Blk ((w7.alloc (.cells #[.int .i64 0, .int .u32 0, .int .i64 0, .int .u32 0, .int .i64 0] 25)).setRow w7.heap.size fs) w7.heap.size 25 (flc q.fl) := by rw [← hfs]; exact (Blk.new w7 25 (flc fl0)).row _
    have hN : Below w7.heap.size w7 ((w7.alloc (.cells #[.int .i64 0, .int .u32 0, .int .i64 0, .int .u32 0, .int .i64 0] 25)).setRow w7.heap.size fs) := below_row (below_al (Below.refl _ w7) _) (Nat.le_refl _)
    have hC8 := below_call hb7 hN
    have hz8 := hb7.size
    clear hN hb7
    generalize hg8 : w7.heap.size = g8 at *
    go_upto_region 7 with (fail)
    generalize (w7.alloc (.cells #[.int .i64 0, .int .u32 0, .int .i64 0, .int .u32 0, .int .i64 0] 25)).setRow g8 fs = w8 at *
    clear hst hfs hsz
    have hK8 := hK6.kept hC8
    have hB8 := hB6.kept hC8
    have hD8 := hBb.kept hC8
    have hw8 := below_call hw6 hC8
    have hs8 := hC8.size
    have HOa8 := Lib.hid (HOa6.out.below hC8)
    have HOb8 := Lib.hid (HOb.out.below hC8)
    clear HOa6 HOb
    have hpa : PkD w8 B1 d1 q := HOa8.out.pkd
    have hpb : PkD w8 B2 d2 q := HOb8.out.pkd
    clear hK6 hB6 hBb hC8 hw6
    have hss := sameP_self q
    obtain ⟨c0, c1, c2, c3, c4, c5, c6, c7, c8, c9, c10, c11, c12⟩ := blk13 hB8
    obtain ⟨e0, e1, e2, e3, e4, e5, e6, e7, e8, e9, e10, e11, e12⟩ := blk13 hD8
    go_wp2_with fail
    (with_reducible refine (rpsame_any q q B1 B2 d1 d2 w8 hpa hpb).mono ?_)
    rintro e w9 ⟨rfl, hb9⟩
    rw [hss]
    have hK9 := hK8.kept hb9
    have hB9 := hB8.kept hb9
    have hD9 := hD8.kept hb9
    have hF9 := hF8.kept hb9
    have hw9 := below_call hw8 hb9
    have hs9 := hb9.size
    have HOa9 := Lib.hid (HOa8.out.below hb9)
    have HOb9 := Lib.hid (HOb8.out.below hb9)
    clear HOa8 HOb8
    clear hK8 hB8 hD8 hF8 hb9 hw8 hpa hpb c0 c1 c2 c3 c4 c5 c6 c7 c8 c9 c10 c11 c12 e0 e1 e2 e3 e4 e5 e6 e7 e8 e9 e10 e11 e12
    go_wp2_with fail
    (with_reducible refine (num_nil w9).mono ?_)
    rintro e w10 ⟨rfl, rfl⟩
    obtain ⟨a0, a1, a2, a3, a4⟩ := blk5 hF9
    obtain ⟨e0, e1, e2, e3, e4, e5, e6, e7, e8, e9, e10, e11, e12⟩ := blk13 hD9
    have heq := fl_same q.fl
    go_wp2_with fail
    (with_reducible refine (kept_n b gd A n c w10 HN.out (hA.below hw9) hK9 (by omega)).mono ?_)
    rintro e w11 ⟨rfl, hb11⟩
    have hK11 := hK9.kept hb11
    have hB11 := hB9.kept hb11
    have hD11 := hD9.kept hb11
    have hw11 := below_call hw9 hb11
    have hs11 := hb11.size
    have HOa11 := Lib.hid (HOa9.out.below hb11)
    have HOb11 := Lib.hid (HOb9.out.below hb11)
    clear HOa9 HOb9
    clear hK9 hB9 hD9 hF9 hb11 hw9 e0 e1 e2 e3 e4 e5 e6 e7 e8 e9 e10 e11 e12 a0 a1 a2 a3 a4 heq
    go_wp2_with fail
    (with_reducible refine (over_any (marked b) gd (n + 2) n (by unfold marked; rw [List.length_append, HN.out]; omega) (by omega) w11 hK11).mono ?_)
    rintro e w12 ⟨⟨v12, rfl⟩, hg12⟩
    have hB12 := hB11.grown hg12 (show some g4 ≠ some gd by simp; omega)
    have hD12 := hD11.grown hg12 (show some g6 ≠ some gd by simp; omega)
    have hw12 : Below w.heap.size w w12 := hw11.grown hg12 hw11.size (fun k e => by injection e with e; omega)
    have HOa12 : PkO w2.heap.size w12 B1 d1 q := HOa11.out.kept hg12 (own_ne hgd2 HOa11.out)
    have HOb12 : PkO w4.heap.size w12 B2 d2 q := HOb11.out.kept hg12 (own_ne (by omega) HOb11.out)
    have hpa : PkD w12 B1 d1 q := HOa12.pkd
    have hpb : PkD w12 B2 d2 q := HOb12.pkd
    clear HOa11 HOb11 HOa12 HOb12
    clear hK11 hB11 hD11 hw11 hg12
    obtain ⟨c0, c1, c2, c3, c4, c5, c6, c7, c8, c9, c10, c11, c12⟩ := blk13 hB12
    obtain ⟨e0, e1, e2, e3, e4, e5, e6, e7, e8, e9, e10, e11, e12⟩ := blk13 hD12
    go_wp2_with fail
    (with_reducible refine (rpsame_any q q B1 B2 d1 d2 w12 hpa hpb).mono ?_)
    rintro e w13 ⟨rfl, hb13⟩
    rw [hss]
    have hw13 := below_call hw12 hb13
    clear c0 c1 c2 c3 c4 c5 c6 c7 c8 c9 c10 c11 c12 e0 e1 e2 e3 e4 e5 e6 e7 e8 e9 e10 e11 e12
    go_wp2_with fail
    go_ret
    exact ⟨rfl, hw13⟩
  · have HNO := Lib.hid (fun q (hq : IsPk b q) => hI (by rw [← isPk_opn hq]; exact hq))
    have HNI := Lib.hid hI
    clear hI
    go_wp2_with fail
    (with_reducible refine (parse_badn b (some ⟨gd, 0, none⟩) n (n + 2) w2 HN.out (marked_rb hK2) (by omega) HNO.out).mono ?_)
    rintro e w3 ⟨rfl, hb3⟩
    obtain ⟨q, hq⟩ : ∃ q, q = pk0 := ⟨_, rfl⟩
    have HQ := Lib.hid hq
    have HFL : Hid (fl0 = q.fl) := by show fl0 = q.fl; rw [hq]
    have HDL : Hid (q.data = []) := by show q.data = []; rw [hq]
    rw [← hq]
    clear hq
    obtain ⟨cs, hcs⟩ : ∃ cs : Array Value, #[.int .i64 q.tos, .int .i64 q.id, .int .i64 q.ttl, .int .i64 q.fl.proto, .int .u32 q.fl.src, .int .i64 q.fl.sp, .int .u32 q.fl.dst, .int .i64 q.fl.dp, .int .u32 q.seq, .int .u32 q.ack, .int .i64 q.flags, .int .i64 q.win, .slice none q.data.length 0] = cs := ⟨_, rfl⟩
    have hsz : cs.size = 13 := by rw [← hcs]; rfl
    have hsl : cs.toList.length = 13 := by rw [← hcs]; rfl
    have hone : ∀ v ∈ cs.toList, v.oneCell' = true := by rw [← hcs]; exact pkc_one q none 0
    have hst := store_new (P := Try.prog) w3 cs hsl hone
    have hN : Below w3.heap.size w3 ((w3.alloc (.cells #[.int .i64 0, .int .i64 0, .int .i64 0, .int .i64 0, .int .u32 0, .int .i64 0, .int .u32 0, .int .i64 0, .int .u32 0, .int .u32 0, .int .i64 0, .int .i64 0, .slice none 0 0] 28)).setRow w3.heap.size cs) := below_row (below_al (Below.refl _ w3) _) (Nat.le_refl _)
    have hBa : Blk ((w3.alloc (.cells #[.int .i64 0, .int .i64 0, .int .i64 0, .int .i64 0, .int .u32 0, .int .i64 0, .int .u32 0, .int .i64 0, .int .u32 0, .int .u32 0, .int .i64 0, .int .i64 0, .slice none 0 0] 28)).setRow w3.heap.size cs) w3.heap.size 28 (pkc q none 0) := by rw [← hcs]; exact (Blk.new w3 28 (pkc pk0 none 0)).row (pkc q none 0)
    have hCa := below_call hb3 hN
    have hza := hb3.size
    clear hone hN
    generalize hga : w3.heap.size = g4 at *
    go_upto_region 5 with (fail)
    generalize (w3.alloc (.cells #[.int .i64 0, .int .i64 0, .int .i64 0, .int .i64 0, .int .u32 0, .int .i64 0, .int .u32 0, .int .i64 0, .int .u32 0, .int .u32 0, .int .i64 0, .int .i64 0, .slice none 0 0] 28)).setRow g4 cs = w4 at *
    clear hcs hsz hsl hst hb3
    have hK4 := hK2.kept hCa
    have hw4 := below_call hw2 hCa
    have hs4 := hCa.size
    clear hK2 hCa
    go_wp2_with fail
    (with_reducible refine (rparse_n b A n c w4 HN.out (hA.below hw4) hc (by omega)).mono ?_)
    rintro e w5 ⟨hcase, hb5⟩
    have HCA := Lib.hid hcase
    clear hcase
    rcases HCA.out with ⟨hI, -⟩ | ⟨-, rfl⟩
    · exact absurd hI HNI.out
    clear HCA
    rw [← HQ.out]
    obtain ⟨cs, hcs⟩ : ∃ cs : Array Value, #[.int .i64 q.tos, .int .i64 q.id, .int .i64 q.ttl, .int .i64 q.fl.proto, .int .u32 q.fl.src, .int .i64 q.fl.sp, .int .u32 q.fl.dst, .int .i64 q.fl.dp, .int .u32 q.seq, .int .u32 q.ack, .int .i64 q.flags, .int .i64 q.win, .slice none q.data.length 0] = cs := ⟨_, rfl⟩
    have hsz : cs.size = 13 := by rw [← hcs]; rfl
    have hsl : cs.toList.length = 13 := by rw [← hcs]; rfl
    have hone : ∀ v ∈ cs.toList, v.oneCell' = true := by rw [← hcs]; exact pkc_one q none 0
    have hst := store_new (P := Try.prog) w5 cs hsl hone
    have hN : Below w5.heap.size w5 ((w5.alloc (.cells #[.int .i64 0, .int .i64 0, .int .i64 0, .int .i64 0, .int .u32 0, .int .i64 0, .int .u32 0, .int .i64 0, .int .u32 0, .int .u32 0, .int .i64 0, .int .i64 0, .slice none 0 0] 28)).setRow w5.heap.size cs) := below_row (below_al (Below.refl _ w5) _) (Nat.le_refl _)
    have hBb : Blk ((w5.alloc (.cells #[.int .i64 0, .int .i64 0, .int .i64 0, .int .i64 0, .int .u32 0, .int .i64 0, .int .u32 0, .int .i64 0, .int .u32 0, .int .u32 0, .int .i64 0, .int .i64 0, .slice none 0 0] 28)).setRow w5.heap.size cs) w5.heap.size 28 (pkc q none 0) := by rw [← hcs]; exact (Blk.new w5 28 (pkc pk0 none 0)).row (pkc q none 0)
    have hCb := below_call hb5 hN
    have hzb := hb5.size
    clear hone hN
    generalize hgb : w5.heap.size = g6 at *
    go_upto_region 6 with (fail)
    generalize (w5.alloc (.cells #[.int .i64 0, .int .i64 0, .int .i64 0, .int .i64 0, .int .u32 0, .int .i64 0, .int .u32 0, .int .i64 0, .int .u32 0, .int .u32 0, .int .i64 0, .int .i64 0, .slice none 0 0] 28)).setRow g6 cs = w6 at *
    clear hcs hsz hsl hst hb5
    have hK6 := hK4.kept hCb
    have hB6 := hBa.kept hCb
    have hw6 := below_call hw4 hCb
    have hs6 := hCb.size
    clear hK4 hBa hCb hw4
    go_wp2_with fail
    (with_reducible refine (flow_bad b (some ⟨gd, 0, none⟩) n (n + 2) w6 HN.out (marked_rb hK6) (by omega) HNO.out).mono ?_)
    rintro e w7 ⟨rfl, hb7⟩
    rw [HFL.out]
    obtain ⟨fs, hfs⟩ : ∃ fs : Array Value, #[.int .i64 q.fl.proto, .int .u32 q.fl.src, .int .i64 q.fl.sp, .int .u32 q.fl.dst, .int .i64 q.fl.dp] = fs := ⟨_, rfl⟩
    have hsz : fs.size = 5 := by rw [← hfs]; rfl
    have hst := store5n (P := Try.prog) w7 fs (by rw [← hfs]; rfl) (by rw [← hfs]; exact fl_one q.fl)
    have hF8 : Blk ((w7.alloc (.cells #[.int .i64 0, .int .u32 0, .int .i64 0, .int .u32 0, .int .i64 0] 25)).setRow w7.heap.size fs) w7.heap.size 25 (flc q.fl) := by rw [← hfs]; exact (Blk.new w7 25 (flc fl0)).row _
    have hN : Below w7.heap.size w7 ((w7.alloc (.cells #[.int .i64 0, .int .u32 0, .int .i64 0, .int .u32 0, .int .i64 0] 25)).setRow w7.heap.size fs) := below_row (below_al (Below.refl _ w7) _) (Nat.le_refl _)
    have hC8 := below_call hb7 hN
    have hz8 := hb7.size
    clear hN hb7
    generalize hg8 : w7.heap.size = g8 at *
    go_upto_region 7 with (fail)
    generalize (w7.alloc (.cells #[.int .i64 0, .int .u32 0, .int .i64 0, .int .u32 0, .int .i64 0] 25)).setRow g8 fs = w8 at *
    clear hst hfs hsz
    have hK8 := hK6.kept hC8
    have hB8 := hB6.kept hC8
    have hD8 := hBb.kept hC8
    have hw8 := below_call hw6 hC8
    have hs8 := hC8.size
    have hpa : PkD w8 none 0 q := pkd_none HDL.out
    have hpb := hpa
    clear hK6 hB6 hBb hC8 hw6
    have hss := sameP_self q
    obtain ⟨c0, c1, c2, c3, c4, c5, c6, c7, c8, c9, c10, c11, c12⟩ := blk13 hB8
    obtain ⟨e0, e1, e2, e3, e4, e5, e6, e7, e8, e9, e10, e11, e12⟩ := blk13 hD8
    go_wp2_with fail
    (with_reducible refine (rpsame_any q q none none 0 0 w8 hpa hpb).mono ?_)
    rintro e w9 ⟨rfl, hb9⟩
    rw [hss]
    have hK9 := hK8.kept hb9
    have hB9 := hB8.kept hb9
    have hD9 := hD8.kept hb9
    have hF9 := hF8.kept hb9
    have hw9 := below_call hw8 hb9
    have hs9 := hb9.size
    clear hK8 hB8 hD8 hF8 hb9 hw8 hpa hpb c0 c1 c2 c3 c4 c5 c6 c7 c8 c9 c10 c11 c12 e0 e1 e2 e3 e4 e5 e6 e7 e8 e9 e10 e11 e12
    go_wp2_with fail
    (with_reducible refine (num_er 2 (by omega) w9).mono ?_)
    rintro e w10 ⟨rfl, rfl⟩
    obtain ⟨a0, a1, a2, a3, a4⟩ := blk5 hF9
    obtain ⟨e0, e1, e2, e3, e4, e5, e6, e7, e8, e9, e10, e11, e12⟩ := blk13 hD9
    have heq := fl_same q.fl
    go_wp2_with fail
    (with_reducible refine (kept_n b gd A n c w10 HN.out (hA.below hw9) hK9 (by omega)).mono ?_)
    rintro e w11 ⟨rfl, hb11⟩
    have hK11 := hK9.kept hb11
    have hB11 := hB9.kept hb11
    have hD11 := hD9.kept hb11
    have hw11 := below_call hw9 hb11
    have hs11 := hb11.size
    clear hK9 hB9 hD9 hF9 hb11 hw9 e0 e1 e2 e3 e4 e5 e6 e7 e8 e9 e10 e11 e12 a0 a1 a2 a3 a4 heq
    go_wp2_with fail
    (with_reducible refine (over_any (marked b) gd (n + 2) n (by unfold marked; rw [List.length_append, HN.out]; omega) (by omega) w11 hK11).mono ?_)
    rintro e w12 ⟨⟨v12, rfl⟩, hg12⟩
    have hB12 := hB11.grown hg12 (show some g4 ≠ some gd by simp; omega)
    have hD12 := hD11.grown hg12 (show some g6 ≠ some gd by simp; omega)
    have hw12 : Below w.heap.size w w12 := hw11.grown hg12 hw11.size (fun k e => by injection e with e; omega)
    have hpa : PkD w12 none 0 q := pkd_none HDL.out
    have hpb := hpa
    clear hK11 hB11 hD11 hw11 hg12
    obtain ⟨c0, c1, c2, c3, c4, c5, c6, c7, c8, c9, c10, c11, c12⟩ := blk13 hB12
    obtain ⟨e0, e1, e2, e3, e4, e5, e6, e7, e8, e9, e10, e11, e12⟩ := blk13 hD12
    go_wp2_with fail
    (with_reducible refine (rpsame_any q q none none 0 0 w12 hpa hpb).mono ?_)
    rintro e w13 ⟨rfl, hb13⟩
    rw [hss]
    have hw13 := below_call hw12 hb13
    clear c0 c1 c2 c3 c4 c5 c6 c7 c8 c9 c10 c11 c12 e0 e1 e2 e3 e4 e5 e6 e7 e8 e9 e10 e11 e12
    go_wp2_with fail
    go_ret
    exact ⟨rfl, hw13⟩
end Go.Proofs.Ytppgplchfigndaa
