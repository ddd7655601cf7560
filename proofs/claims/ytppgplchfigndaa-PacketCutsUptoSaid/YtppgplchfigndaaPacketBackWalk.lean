/- The walk of PacketBack. -/
import Derived.Test.YtppgplchfigndaaPAlive
import Derived.Test.YtppgplchfigndaaPktOpen
import Derived.Test.YtppgplchfigndaaApart
namespace Go.Proofs.Ytppgplchfigndaa
set_option linter.unusedVariables false
set_option linter.unusedSimpArgs false
open Go.RowKit

theorem pbuild_any (p : Pk) (B : Option Addr) (d : Nat) (w : World) (hd : PkD w B d p) (hu : U32s p) :
    Calls Try.prog 11 #[pkv p B d] w fun e w' => ∃ v E, e = .returned (.tuple #[v, E]) ∧ Hid ((GoodP p ∧ E = .nilIface ∧ w'.ownsRow w.heap.size 5 1 v (build p).length ((build p).map bv)) ∨ (¬ GoodP p ∧ E = er 9 ∧ v = .slice none 0 0)) ∧ Below w.heap.size w w' := by
  by_cases hg : GoodP p
  · refine (pbuild_good p B d w hd hg hu).mono ?_
    rintro e w' ⟨v, rfl, hO, hb⟩
    exact ⟨v, _, rfl, .inl ⟨hg, rfl, hO⟩, hb⟩
  · refine (pbuild_bad p B d w hg).mono ?_
    rintro e w' ⟨rfl, hb⟩
    exact ⟨_, _, rfl, .inr ⟨hg, rfl, rfl⟩, hb⟩
set_option maxRecDepth 100000 in
set_option maxHeartbeats 6400000 in
theorem PacketBack_walk (p : Pk) (B0 : Option Addr) (e0' : Nat) (b : List UInt8) (A : Option Addr) (c : Nat) (w : World) (hd : PkD w B0 e0' p) (hu : U32s p) (hdl : p.data.length ≤ 1048576) (hc : b.length ≤ c) (hA : RB w A b) (hbl : b.length ≤ 1048576) :
    Calls Try.prog 4 #[pkv p B0 e0', .slice A b.length c] w fun e w' => e = .returned (.bool true) ∧ Below w.heap.size w w' := by
  have hb0 : Below w.heap.size w (w.alloc (.cells #[.int .i64 p.tos, .int .i64 p.id, .int .i64 p.ttl, .int .i64 p.fl.proto, .int .u32 p.fl.src, .int .i64 p.fl.sp, .int .u32 p.fl.dst, .int .i64 p.fl.dp, .int .u32 p.seq, .int .u32 p.ack, .int .i64 p.flags, .int .i64 p.win, .slice B0 p.data.length e0'] 28)) := (Below.refl _ w).alloc (Nat.le_refl _) _
  have hX : Blk (w.alloc (.cells #[.int .i64 p.tos, .int .i64 p.id, .int .i64 p.ttl, .int .i64 p.fl.proto, .int .u32 p.fl.src, .int .i64 p.fl.sp, .int .u32 p.fl.dst, .int .i64 p.fl.dp, .int .u32 p.seq, .int .u32 p.ack, .int .i64 p.flags, .int .i64 p.win, .slice B0 p.data.length e0'] 28)) w.heap.size 28 (pkc p B0 e0') := Blk.new w _ _
  go_enter Try.func4, Try.ntmps4
  go_wp2_with fail
  generalize w.alloc (.cells #[.int .i64 p.tos, .int .i64 p.id, .int .i64 p.ttl, .int .i64 p.fl.proto, .int .u32 p.fl.src, .int .i64 p.fl.sp, .int .u32 p.fl.dst, .int .i64 p.fl.dp, .int .u32 p.seq, .int .u32 p.ack, .int .i64 p.flags, .int .i64 p.win, .slice B0 p.data.length e0'] 28) = wa at *
  have hs0 : w.heap.size < wa.heap.size := hX.lt
  (with_reducible refine (alive_any wa).mono ?_)
  rintro e w1 ⟨rfl, hb1⟩
  have hw1 := below_call hb0 hb1
  have hs1 := hb1.size
  have hX1 := hX.kept hb1
  clear hX hb0 hb1
  obtain ⟨c0, c1, c2, c3, c4, c5, c6, c7, c8, c9, c10, c11, c12⟩ := blk13 hX1
  go_wp2_with fail
  (with_reducible refine (pbuild_any p B0 e0' w1 (hd.below hw1) hu).mono ?_)
  rintro e w2 ⟨v, E, rfl, hcase, hb2⟩
  have hw2 := below_call hw1 hb2
  have hs2 := hb2.size
  have hX2 := hX1.kept hb2
  clear hX1 hw1 hb2
  clear c0 c1 c2 c3 c4 c5 c6 c7 c8 c9 c10 c11 c12
  obtain ⟨c0, c1, c2, c3, c4, c5, c6, c7, c8, c9, c10, c11, c12⟩ := blk13 hX2
  rcases hcase.out with ⟨hg, rfl, hO⟩ | ⟨hg, rfl, rfl⟩
  focus
    have hI : Hid (IsPk (build p) p) := ⟨hg, hu, rfl⟩
    have hsh := isPk_shape hI.out
    have hxl := hsh.2.1
    clear hsh hcase hg
    generalize build p = xb at *
    obtain ⟨X, k, rfl, hk, hR, -⟩ := own_form hO
    replace hR : RB w2 X xb := hR
    clear hO
    go_wp2_with fail
    (with_reducible refine (parse_good xb p X k w2 hR hk hI.out).mono ?_)
    rintro e w3 ⟨B1, d1, rfl, HO, hb3⟩
    obtain ⟨cs, hcs⟩ : ∃ cs : Array Value, #[.int .i64 p.tos, .int .i64 p.id, .int .i64 p.ttl, .int .i64 p.fl.proto, .int .u32 p.fl.src, .int .i64 p.fl.sp, .int .u32 p.fl.dst, .int .i64 p.fl.dp, .int .u32 p.seq, .int .u32 p.ack, .int .i64 p.flags, .int .i64 p.win, .slice B1 p.data.length d1] = cs := ⟨_, rfl⟩
    have hsz : cs.size = 13 := by rw [← hcs]; rfl
    have hsl : cs.toList.length = 13 := by rw [← hcs]; rfl
    have hone : ∀ v ∈ cs.toList, v.oneCell' = true := by rw [← hcs]; exact pkc_one p B1 d1
    have hst := store_new (P := Try.prog) w3 cs hsl hone
    have hN : Below w3.heap.size w3 ((w3.alloc (.cells #[.int .i64 0, .int .i64 0, .int .i64 0, .int .i64 0, .int .u32 0, .int .i64 0, .int .u32 0, .int .i64 0, .int .u32 0, .int .u32 0, .int .i64 0, .int .i64 0, .slice none 0 0] 28)).setRow w3.heap.size cs) := below_row (below_al (Below.refl _ w3) _) (Nat.le_refl _)
    have hBa : Blk ((w3.alloc (.cells #[.int .i64 0, .int .i64 0, .int .i64 0, .int .i64 0, .int .u32 0, .int .i64 0, .int .u32 0, .int .i64 0, .int .u32 0, .int .u32 0, .int .i64 0, .int .i64 0, .slice none 0 0] 28)).setRow w3.heap.size cs) w3.heap.size 28 (pkc p B1 d1) := by rw [← hcs]; exact (Blk.new w3 28 (pkc pk0 none 0)).row (pkc p B1 d1)
    have HOa := Lib.hid (HO.below hN)
    clear HO
    have hCa := below_call hb3 hN
    have hza := hb3.size
    clear hone hN
    generalize hga : w3.heap.size = g4 at *
    go_upto_region 6 with (fail)
    generalize (w3.alloc (.cells #[.int .i64 0, .int .i64 0, .int .i64 0, .int .i64 0, .int .u32 0, .int .i64 0, .int .u32 0, .int .i64 0, .int .u32 0, .int .u32 0, .int .i64 0, .int .i64 0, .slice none 0 0] 28)).setRow g4 cs = w4 at *
    clear hcs hsz hsl hst hb3
    have hR4 := hR.below hCa
    have hX4 := hX2.kept hCa
    have hw4 := below_call hw2 hCa
    have hs4 := hCa.size
    clear hX2 hR c0 c1 c2 c3 c4 c5 c6 c7 c8 c9 c10 c11 c12
    go_wp2_with fail
    (with_reducible refine (parse_good xb p X k w4 hR4 hk hI.out).mono ?_)
    rintro e w5 ⟨B2, d2, rfl, HO, hb5⟩
    obtain ⟨cs, hcs⟩ : ∃ cs : Array Value, #[.int .i64 p.tos, .int .i64 p.id, .int .i64 p.ttl, .int .i64 p.fl.proto, .int .u32 p.fl.src, .int .i64 p.fl.sp, .int .u32 p.fl.dst, .int .i64 p.fl.dp, .int .u32 p.seq, .int .u32 p.ack, .int .i64 p.flags, .int .i64 p.win, .slice B2 p.data.length d2] = cs := ⟨_, rfl⟩
    have hsz : cs.size = 13 := by rw [← hcs]; rfl
    have hsl : cs.toList.length = 13 := by rw [← hcs]; rfl
    have hone : ∀ v ∈ cs.toList, v.oneCell' = true := by rw [← hcs]; exact pkc_one p B2 d2
    have hst := store_new (P := Try.prog) w5 cs hsl hone
    have hN : Below w5.heap.size w5 ((w5.alloc (.cells #[.int .i64 0, .int .i64 0, .int .i64 0, .int .i64 0, .int .u32 0, .int .i64 0, .int .u32 0, .int .i64 0, .int .u32 0, .int .u32 0, .int .i64 0, .int .i64 0, .slice none 0 0] 28)).setRow w5.heap.size cs) := below_row (below_al (Below.refl _ w5) _) (Nat.le_refl _)
    have hBb : Blk ((w5.alloc (.cells #[.int .i64 0, .int .i64 0, .int .i64 0, .int .i64 0, .int .u32 0, .int .i64 0, .int .u32 0, .int .i64 0, .int .u32 0, .int .u32 0, .int .i64 0, .int .i64 0, .slice none 0 0] 28)).setRow w5.heap.size cs) w5.heap.size 28 (pkc p B2 d2) := by rw [← hcs]; exact (Blk.new w5 28 (pkc pk0 none 0)).row (pkc p B2 d2)
    have HOb := Lib.hid (HO.below hN)
    clear HO
    have hCb := below_call hb5 hN
    have hzb := hb5.size
    clear hone hN
    generalize hgb : w5.heap.size = g6 at *
    go_upto_region 7 with (fail)
    generalize (w5.alloc (.cells #[.int .i64 0, .int .i64 0, .int .i64 0, .int .i64 0, .int .u32 0, .int .i64 0, .int .u32 0, .int .i64 0, .int .u32 0, .int .u32 0, .int .i64 0, .int .i64 0, .slice none 0 0] 28)).setRow g6 cs = w6 at *
    clear hcs hsz hsl hst hb5
    have hX6 := hX4.kept hCb
    have hB4 := hBa.kept hCb
    have hw6 := below_call hw4 hCb
    have hs6 := hCb.size
    have hd01 := Lib.hid (own_apt HOa.out HOb.out (Nat.le_refl _))
    have HOa6 := Lib.hid (HOa.out.below hCb)
    clear hX4 hBa hCa hCb HOa hR4
    have hss := sameP_self p
    have hda : PkD w6 B1 d1 p := HOa6.out.pkd
    have hd6 := hd.below hw6
    obtain ⟨c0, c1, c2, c3, c4, c5, c6, c7, c8, c9, c10, c11, c12⟩ := blk13 hX6
    obtain ⟨e0, e1, e2, e3, e4, e5, e6, e7, e8, e9, e10, e11, e12⟩ := blk13 hB4
    have f12 := (blk13 hBb).2.2.2.2.2.2.2.2.2.2.2.2
    go_wp2_with fail
    (with_reducible refine (psame_any p p B0 B1 e0' d1 w6 hd6 hda).mono ?_)
    rintro e w7 ⟨rfl, hb7⟩
    rw [hss]
    have hB47 := hB4.kept hb7
    have hB67 := hBb.kept hb7
    have hw7 := below_call hw6 hb7
    have hs7 := hb7.size
    have HOa7 := Lib.hid (HOa6.out.below hb7)
    have HOb7 := Lib.hid (HOb.out.below hb7)
    clear hX6 hB4 hBb HOa6 HOb hb7 hw6 c0 c1 c2 c3 c4 c5 c6 c7 c8 c9 c10 c11 c12 e0 e1 e2 e3 e4 e5 e6 e7 e8 e9 e10 e11 e12 f12
    have e12 := (blk13 hB47).2.2.2.2.2.2.2.2.2.2.2.2
    have f12 := (blk13 hB67).2.2.2.2.2.2.2.2.2.2.2.2
    have q1 : w7.ownsRow w.heap.size 5 1 (.slice B1 p.data.length d1) p.data.length (p.data.map bv) := HOa7.out.weaken (by omega)
    have q2 : w7.ownsRow w.heap.size 5 1 (.slice B2 p.data.length d2) p.data.length (p.data.map bv) := HOb7.out.weaken (by omega)
    have Q1 := Lib.hid q1
    have Q2 := Lib.hid q2
    clear q1 q2
    go_wp2_with fail
    (with_reducible refine (apart2 w.heap.size _ _ p.data.length p.data.length _ _ 26 w7 (by omega) (by omega) (by omega) Q1.out Q2.out hd01.out rfl).mono ?_)
    rintro e w8 ⟨rfl, hb8⟩
    have hwc : Below w.heap.size w w8 := (below_al hw7 _).trans hb8
    have hAc := hA.below hwc
    clear hb8 hB47 hB67 e12 f12 hd6 hda hss HOa7 HOb7 Q1 Q2 hd01 hw7 hw4 hw2 hI
    go_upto_region 9 with (fail)
    by_cases hI : IsPk b (opn b)
    · have HI := Lib.hid hI
      have hxl := (isPk_shape hI).2.1
      clear hI
      generalize opn b = q at *
      have HI3 : Hid (GoodP q ∧ U32s q ∧ build q = b) := HI.out
      go_wp2_with fail
      (with_reducible refine (parse_good b q A c w8 hAc hc HI.out).mono ?_)
      rintro e v5 ⟨C2, k2, rfl, HO, hb5⟩
      obtain ⟨cs, hcs⟩ : ∃ cs : Array Value, #[.int .i64 q.tos, .int .i64 q.id, .int .i64 q.ttl, .int .i64 q.fl.proto, .int .u32 q.fl.src, .int .i64 q.fl.sp, .int .u32 q.fl.dst, .int .i64 q.fl.dp, .int .u32 q.seq, .int .u32 q.ack, .int .i64 q.flags, .int .i64 q.win, .slice C2 q.data.length k2] = cs := ⟨_, rfl⟩
      have hsz : cs.size = 13 := by rw [← hcs]; rfl
      have hsl : cs.toList.length = 13 := by rw [← hcs]; rfl
      have hone : ∀ v ∈ cs.toList, v.oneCell' = true := by rw [← hcs]; exact pkc_one q C2 k2
      have hst := store_new (P := Try.prog) v5 cs hsl hone
      have hN : Below v5.heap.size v5 ((v5.alloc (.cells #[.int .i64 0, .int .i64 0, .int .i64 0, .int .i64 0, .int .u32 0, .int .i64 0, .int .u32 0, .int .i64 0, .int .u32 0, .int .u32 0, .int .i64 0, .int .i64 0, .slice none 0 0] 28)).setRow v5.heap.size cs) := below_row (below_al (Below.refl _ v5) _) (Nat.le_refl _)
      have hBb : Blk ((v5.alloc (.cells #[.int .i64 0, .int .i64 0, .int .i64 0, .int .i64 0, .int .u32 0, .int .i64 0, .int .u32 0, .int .i64 0, .int .u32 0, .int .u32 0, .int .i64 0, .int .i64 0, .slice none 0 0] 28)).setRow v5.heap.size cs) v5.heap.size 28 (pkc q C2 k2) := by rw [← hcs]; exact (Blk.new v5 28 (pkc pk0 none 0)).row (pkc q C2 k2)
      have HOb := Lib.hid (HO.below hN)
      clear HO
      have hCb := below_call hb5 hN
      have hzb := hb5.size
      clear hone hN
      generalize hgb : v5.heap.size = j6 at *
      go_upto_region 10 with (fail)
      generalize (v5.alloc (.cells #[.int .i64 0, .int .i64 0, .int .i64 0, .int .i64 0, .int .u32 0, .int .i64 0, .int .u32 0, .int .i64 0, .int .u32 0, .int .u32 0, .int .i64 0, .int .i64 0, .slice none 0 0] 28)).setRow j6 cs = v6 at *
      clear hcs hsz hsl hst hb5
      have hw6 := below_call hwc hCb
      have hA6 := hAc.below hCb
      have hqd : PkD v6 C2 k2 q := HOb.out.pkd
      clear hCb HOb hAc hwc
      obtain ⟨c0, c1, c2, c3, c4, c5, c6, c7, c8, c9, c10, c11, c12⟩ := blk13 hBb
      go_wp2_with fail
      (with_reducible refine (pbuild_good q C2 k2 v6 hqd HI3.out.1 HI3.out.2.1).mono ?_)
      rintro e w7 ⟨v, rfl, hO, hb7⟩
      rw [HI3.out.2.2] at hO
      obtain ⟨Y, k7, rfl, hk7, hR7, -⟩ := own_form hO
      replace hR7 : RB w7 Y b := hR7
      have hA7 := hA6.below hb7
      have hw7 := below_call hw6 hb7
      clear hO hBb hb7 hw6 hA6 hqd c0 c1 c2 c3 c4 c5 c6 c7 c8 c9 c10 c11 c12
      have s1 := run_str (P := Try.prog) _ _ _ _ Try.underlying26 Try.underlying5 Try.underlying9 _ _ k7 _ hR7 rfl
      have s2 := run_str (P := Try.prog) _ _ _ _ Try.underlying26 Try.underlying5 Try.underlying9 _ _ c _ hA7 rfl
      go_wp2_with fail
      go_ret
      exact ⟨by simp, hw7⟩
    · have HI := Lib.hid (fun q (hq : IsPk b q) => hI (by rw [← isPk_opn hq]; exact hq))
      clear hI
      go_wp2_with fail
      (with_reducible refine (parse_bad b A c w8 hAc hc HI.out).mono ?_)
      rintro e v5 ⟨rfl, hb5⟩
      have hD0 : PkD v5 none 0 pk0 := ⟨Nat.le_refl _, fun j u hu => by simp [pk0] at hu⟩
      have HZ : Hid (pkv pk0 none 0 = .agg #[.int .i64 0, .int .i64 0, .int .i64 0, .int .i64 0, .int .u32 0, .int .i64 0, .int .u32 0, .int .i64 0, .int .u32 0, .int .u32 0, .int .i64 0, .int .i64 0, .slice none 0 0]) := rfl
      generalize pk0 = q at *
      obtain ⟨cs, hcs⟩ : ∃ cs : Array Value, #[.int .i64 q.tos, .int .i64 q.id, .int .i64 q.ttl, .int .i64 q.fl.proto, .int .u32 q.fl.src, .int .i64 q.fl.sp, .int .u32 q.fl.dst, .int .i64 q.fl.dp, .int .u32 q.seq, .int .u32 q.ack, .int .i64 q.flags, .int .i64 q.win, .slice none q.data.length 0] = cs := ⟨_, rfl⟩
      have hsz : cs.size = 13 := by rw [← hcs]; rfl
      have hsl : cs.toList.length = 13 := by rw [← hcs]; rfl
      have hone : ∀ v ∈ cs.toList, v.oneCell' = true := by rw [← hcs]; exact pkc_one q none 0
      have hst := store_new (P := Try.prog) v5 cs hsl hone
      have hN : Below v5.heap.size v5 ((v5.alloc (.cells #[.int .i64 0, .int .i64 0, .int .i64 0, .int .i64 0, .int .u32 0, .int .i64 0, .int .u32 0, .int .i64 0, .int .u32 0, .int .u32 0, .int .i64 0, .int .i64 0, .slice none 0 0] 28)).setRow v5.heap.size cs) := below_row (below_al (Below.refl _ v5) _) (Nat.le_refl _)
      have hBb : Blk ((v5.alloc (.cells #[.int .i64 0, .int .i64 0, .int .i64 0, .int .i64 0, .int .u32 0, .int .i64 0, .int .u32 0, .int .i64 0, .int .u32 0, .int .u32 0, .int .i64 0, .int .i64 0, .slice none 0 0] 28)).setRow v5.heap.size cs) v5.heap.size 28 (pkc q none 0) := by rw [← hcs]; exact (Blk.new v5 28 (pkc pk0 none 0)).row (pkc q none 0)
      have hDn := hD0.below hN
      have hCb := below_call hb5 hN
      have hzb := hb5.size
      clear hone hN
      generalize hgb : v5.heap.size = j6 at *
      go_upto_region 10 with (fail)
      generalize (v5.alloc (.cells #[.int .i64 0, .int .i64 0, .int .i64 0, .int .i64 0, .int .u32 0, .int .i64 0, .int .u32 0, .int .i64 0, .int .u32 0, .int .u32 0, .int .i64 0, .int .i64 0, .slice none 0 0] 28)).setRow j6 cs = v6 at *
      clear hcs hsz hsl hst hb5
      have hw6 := below_call hwc hCb
      clear hCb hAc hwc hD0
      obtain ⟨c0, c1, c2, c3, c4, c5, c6, c7, c8, c9, c10, c11, c12⟩ := blk13 hBb
      have heq := er_eql 2 2 v6
      have hss := sameP_self q
      go_wp2_with fail
      rw [← HZ.out]
      (with_reducible refine (psame_any q q none none 0 0 v6 hDn hDn).mono ?_)
      rintro e w7 ⟨rfl, hb7⟩
      rw [hss]
      have hw7 := below_call hw6 hb7
      clear c0 c1 c2 c3 c4 c5 c6 c7 c8 c9 c10 c11 c12
      go_wp2_with fail
      go_ret
      exact ⟨rfl, hw7⟩
  focus
    have hAc := hA.below hw2
    have hwc := hw2
    clear hcase hX2 c0 c1 c2 c3 c4 c5 c6 c7 c8 c9 c10 c11 c12
    go_upto_region 9 with (fail)
    by_cases hI : IsPk b (opn b)
    · have HI := Lib.hid hI
      have hxl := (isPk_shape hI).2.1
      clear hI
      generalize opn b = q at *
      have HI3 : Hid (GoodP q ∧ U32s q ∧ build q = b) := HI.out
      go_wp2_with fail
      (with_reducible refine (parse_good b q A c w2 hAc hc HI.out).mono ?_)
      rintro e v5 ⟨C2, k2, rfl, HO, hb5⟩
      obtain ⟨cs, hcs⟩ : ∃ cs : Array Value, #[.int .i64 q.tos, .int .i64 q.id, .int .i64 q.ttl, .int .i64 q.fl.proto, .int .u32 q.fl.src, .int .i64 q.fl.sp, .int .u32 q.fl.dst, .int .i64 q.fl.dp, .int .u32 q.seq, .int .u32 q.ack, .int .i64 q.flags, .int .i64 q.win, .slice C2 q.data.length k2] = cs := ⟨_, rfl⟩
      have hsz : cs.size = 13 := by rw [← hcs]; rfl
      have hsl : cs.toList.length = 13 := by rw [← hcs]; rfl
      have hone : ∀ v ∈ cs.toList, v.oneCell' = true := by rw [← hcs]; exact pkc_one q C2 k2
      have hst := store_new (P := Try.prog) v5 cs hsl hone
      have hN : Below v5.heap.size v5 ((v5.alloc (.cells #[.int .i64 0, .int .i64 0, .int .i64 0, .int .i64 0, .int .u32 0, .int .i64 0, .int .u32 0, .int .i64 0, .int .u32 0, .int .u32 0, .int .i64 0, .int .i64 0, .slice none 0 0] 28)).setRow v5.heap.size cs) := below_row (below_al (Below.refl _ v5) _) (Nat.le_refl _)
      have hBb : Blk ((v5.alloc (.cells #[.int .i64 0, .int .i64 0, .int .i64 0, .int .i64 0, .int .u32 0, .int .i64 0, .int .u32 0, .int .i64 0, .int .u32 0, .int .u32 0, .int .i64 0, .int .i64 0, .slice none 0 0] 28)).setRow v5.heap.size cs) v5.heap.size 28 (pkc q C2 k2) := by rw [← hcs]; exact (Blk.new v5 28 (pkc pk0 none 0)).row (pkc q C2 k2)
      have HOb := Lib.hid (HO.below hN)
      clear HO
      have hCb := below_call hb5 hN
      have hzb := hb5.size
      clear hone hN
      generalize hgb : v5.heap.size = j6 at *
      go_upto_region 10 with (fail)
      generalize (v5.alloc (.cells #[.int .i64 0, .int .i64 0, .int .i64 0, .int .i64 0, .int .u32 0, .int .i64 0, .int .u32 0, .int .i64 0, .int .u32 0, .int .u32 0, .int .i64 0, .int .i64 0, .slice none 0 0] 28)).setRow j6 cs = v6 at *
      clear hcs hsz hsl hst hb5
      have hw6 := below_call hwc hCb
      have hA6 := hAc.below hCb
      have hqd : PkD v6 C2 k2 q := HOb.out.pkd
      clear hCb HOb hAc hwc
      obtain ⟨c0, c1, c2, c3, c4, c5, c6, c7, c8, c9, c10, c11, c12⟩ := blk13 hBb
      go_wp2_with fail
      (with_reducible refine (pbuild_good q C2 k2 v6 hqd HI3.out.1 HI3.out.2.1).mono ?_)
      rintro e w7 ⟨v, rfl, hO, hb7⟩
      rw [HI3.out.2.2] at hO
      obtain ⟨Y, k7, rfl, hk7, hR7, -⟩ := own_form hO
      replace hR7 : RB w7 Y b := hR7
      have hA7 := hA6.below hb7
      have hw7 := below_call hw6 hb7
      clear hO hBb hb7 hw6 hA6 hqd c0 c1 c2 c3 c4 c5 c6 c7 c8 c9 c10 c11 c12
      have s1 := run_str (P := Try.prog) _ _ _ _ Try.underlying26 Try.underlying5 Try.underlying9 _ _ k7 _ hR7 rfl
      have s2 := run_str (P := Try.prog) _ _ _ _ Try.underlying26 Try.underlying5 Try.underlying9 _ _ c _ hA7 rfl
      go_wp2_with fail
      go_ret
      exact ⟨by simp, hw7⟩
    · have HI := Lib.hid (fun q (hq : IsPk b q) => hI (by rw [← isPk_opn hq]; exact hq))
      clear hI
      go_wp2_with fail
      (with_reducible refine (parse_bad b A c w2 hAc hc HI.out).mono ?_)
      rintro e v5 ⟨rfl, hb5⟩
      have hD0 : PkD v5 none 0 pk0 := ⟨Nat.le_refl _, fun j u hu => by simp [pk0] at hu⟩
      have HZ : Hid (pkv pk0 none 0 = .agg #[.int .i64 0, .int .i64 0, .int .i64 0, .int .i64 0, .int .u32 0, .int .i64 0, .int .u32 0, .int .i64 0, .int .u32 0, .int .u32 0, .int .i64 0, .int .i64 0, .slice none 0 0]) := rfl
      generalize pk0 = q at *
      obtain ⟨cs, hcs⟩ : ∃ cs : Array Value, #[.int .i64 q.tos, .int .i64 q.id, .int .i64 q.ttl, .int .i64 q.fl.proto, .int .u32 q.fl.src, .int .i64 q.fl.sp, .int .u32 q.fl.dst, .int .i64 q.fl.dp, .int .u32 q.seq, .int .u32 q.ack, .int .i64 q.flags, .int .i64 q.win, .slice none q.data.length 0] = cs := ⟨_, rfl⟩
      have hsz : cs.size = 13 := by rw [← hcs]; rfl
      have hsl : cs.toList.length = 13 := by rw [← hcs]; rfl
      have hone : ∀ v ∈ cs.toList, v.oneCell' = true := by rw [← hcs]; exact pkc_one q none 0
      have hst := store_new (P := Try.prog) v5 cs hsl hone
      have hN : Below v5.heap.size v5 ((v5.alloc (.cells #[.int .i64 0, .int .i64 0, .int .i64 0, .int .i64 0, .int .u32 0, .int .i64 0, .int .u32 0, .int .i64 0, .int .u32 0, .int .u32 0, .int .i64 0, .int .i64 0, .slice none 0 0] 28)).setRow v5.heap.size cs) := below_row (below_al (Below.refl _ v5) _) (Nat.le_refl _)
      have hBb : Blk ((v5.alloc (.cells #[.int .i64 0, .int .i64 0, .int .i64 0, .int .i64 0, .int .u32 0, .int .i64 0, .int .u32 0, .int .i64 0, .int .u32 0, .int .u32 0, .int .i64 0, .int .i64 0, .slice none 0 0] 28)).setRow v5.heap.size cs) v5.heap.size 28 (pkc q none 0) := by rw [← hcs]; exact (Blk.new v5 28 (pkc pk0 none 0)).row (pkc q none 0)
      have hDn := hD0.below hN
      have hCb := below_call hb5 hN
      have hzb := hb5.size
      clear hone hN
      generalize hgb : v5.heap.size = j6 at *
      go_upto_region 10 with (fail)
      generalize (v5.alloc (.cells #[.int .i64 0, .int .i64 0, .int .i64 0, .int .i64 0, .int .u32 0, .int .i64 0, .int .u32 0, .int .i64 0, .int .u32 0, .int .u32 0, .int .i64 0, .int .i64 0, .slice none 0 0] 28)).setRow j6 cs = v6 at *
      clear hcs hsz hsl hst hb5
      have hw6 := below_call hwc hCb
      clear hCb hAc hwc hD0
      obtain ⟨c0, c1, c2, c3, c4, c5, c6, c7, c8, c9, c10, c11, c12⟩ := blk13 hBb
      have heq := er_eql 2 2 v6
      have hss := sameP_self q
      go_wp2_with fail
      rw [← HZ.out]
      (with_reducible refine (psame_any q q none none 0 0 v6 hDn hDn).mono ?_)
      rintro e w7 ⟨rfl, hb7⟩
      rw [hss]
      have hw7 := below_call hw6 hb7
      clear c0 c1 c2 c3 c4 c5 c6 c7 c8 c9 c10 c11 c12
      go_wp2_with fail
      go_ret
      exact ⟨rfl, hw7⟩
theorem PacketBackX_walk {H : Type} {da : DataW H} (p : Pk) (v : Value) (b : List UInt8) (A : Option Addr) (c : Nat) (w : World) (o : PktIs w v da p) (b0 : Rows.uptoBulk da ≤ 1048576) (hc : b.length ≤ c) (hA : RB w A b) (lb : b.length ≤ 1048576) :
    Calls Try.prog 4 #[v, .slice A b.length c] w fun e w' => e = .returned (.bool true) ∧ Below w.heap.size w w' := by
  obtain ⟨B0, e0', rfl, h1, h2, h3⟩ := o
  exact PacketBack_walk p B0 e0' b A c w h1 h2 (by have := h1.1; omega) hc hA lb
end Go.Proofs.Ytppgplchfigndaa
