/- The walk of packet.Build. -/
import Derived.Test.YtbhdjalpkecbeaaPCheckB
import Derived.Test.YtbhdjalpkecbeaaSegmentT
import Derived.Laws.MakeOwn
import Derived.Deep.RegionHeld3
namespace Go.Proofs.Ytbhdjalpkecbeaa
set_option linter.unusedVariables false
set_option linter.unusedSimpArgs false
open Go.RowKit

theorem segment_any (p : Pk) (B : Option Addr) (d : Nat) (w : World) (hd : PkD w B d p) (hg : GoodP p) (hu : U32s p) :
    Calls Try.prog 57 #[pkv p B d] w fun e w' => ∃ v, e = .returned v ∧ w'.ownsRow (w.heap.size + 2) 5 1 v (segS p).length ((segS p).map bv) ∧ Below w.heap.size w w' := by
  rcases hg.1.1 with h | h
  · exact segment_tcp p B d w hd hg hu h
  · exact segment_udp p B d w hd hg hu h

theorem WrC.app {w4 w5 : World} {base g n : Nat} {q lit : List UInt8} {v v' : Value} {o : Obj} {cs : List Value} (h : WrC w4 base g q v) (hn : n = (q ++ lit).length) (hcs : cs = (q ++ lit).map bv) (hown : w5.ownsRow base 5 1 v' n cs)
    (hg : (w4.alloc o).grownBy w5 v.ownBlock) (hat : At (w4.alloc o) v v') :
    WrC (w5.setCell ⟨g, 0, none⟩ v') base g (q ++ lit) v' ∧ Below base w4 (w5.setCell ⟨g, 0, none⟩ v') ∧ w5.cell? ⟨g, 0, none⟩ = some v ∧ w5.frozen? ⟨g, 0, none⟩ = false := by
  subst hn hcs
  have hlt := h.blk.lt
  have hbg := h.hb
  have hB := (h.blk.alloc o).grown hg (fun e => h.ne e.symm)
  have hne : v'.ownBlock ≠ some g := by
    rcases hat with e | e
    · rw [e]; exact h.ne
    · rw [e]; intro e2; injection e2 with e2; simp at e2; omega
  have hc := hB.cell 0
  simp only [List.getElem?_cons_zero] at hc
  refine ⟨⟨by simpa using hB.set_ 0 v', hown.kept (grown_set _ g 0 _) (.inr hne), hne, hbg⟩, ?_, hc, hB.frozen 0⟩
  exact ((((Below.refl base w4).alloc (by omega) o).grown hg (by simp; omega) (fun b e => (own_lt h.own e).1)).setCell hbg _)
theorem rp1_at (W : World) (t : TypeId) (B : Option Addr) (n c : Nat) (xs : List UInt8) (hn : xs.length = n) (hc : n ≤ c) (h : RB W B xs) {g : Nat} (hg : g = W.heap.size) :
    RP (W.alloc (.cells #[.slice B n c] t)) (some ⟨g, 0, none⟩) [xs] := by
  subst hn
  exact rp1 W t B c xs hc h hg
theorem front_set (p : Pk) (n c : Nat) : ((front p n 0).set 10 (UInt8.ofNat (c / 256))).set 11 (UInt8.ofNat c) = front p n c := by
  rw [front_cons, front_cons]; rfl

set_option maxHeartbeats 1600000 in
theorem pbuild_bad (p : Pk) (B : Option Addr) (d : Nat) (w : World) (h : ¬ GoodP p) :
    Calls Try.prog 43 #[pkv p B d] w fun e w' => e = .returned (.tuple #[.slice none 0 0, er 9]) ∧ Below w.heap.size w w' := by
  obtain ⟨tos, id, ttl, ⟨proto, src, sp, dst, dp⟩, sq, ak, flags, win, data⟩ := p
  have hb0 : Below w.heap.size w (w.alloc (.cells #[.int .i64 tos, .int .i64 id, .int .i64 ttl, .int .i64 proto, .int .u32 src, .int .i64 sp, .int .u32 dst, .int .i64 dp, .int .u32 sq, .int .u32 ak, .int .i64 flags, .int .i64 win, .slice B data.length d] 52)) := (Below.refl _ w).alloc (Nat.le_refl _) _
  have hX : Blk (w.alloc (.cells #[.int .i64 tos, .int .i64 id, .int .i64 ttl, .int .i64 proto, .int .u32 src, .int .i64 sp, .int .u32 dst, .int .i64 dp, .int .u32 sq, .int .u32 ak, .int .i64 flags, .int .i64 win, .slice B data.length d] 52)) w.heap.size 52 (pkc ⟨tos, id, ttl, ⟨proto, src, sp, dst, dp⟩, sq, ak, flags, win, data⟩ B d) := Blk.new w _ _
  go_enter Try.func43, Try.ntmps43
  go_upto_region 1 with (fail)
  generalize w.alloc (.cells #[.int .i64 tos, .int .i64 id, .int .i64 ttl, .int .i64 proto, .int .u32 src, .int .i64 sp, .int .u32 dst, .int .i64 dp, .int .u32 sq, .int .u32 ak, .int .i64 flags, .int .i64 win, .slice B data.length d] 52) = wa at *
  obtain ⟨c0, c1, c2, c3, c4, c5, c6, c7, c8, c9, c10, c11, c12⟩ := blk13 hX
  go_wp2_with fail
  (with_reducible refine (pcheck_bad ⟨tos, id, ttl, ⟨proto, src, sp, dst, dp⟩, sq, ak, flags, win, data⟩ B d wa h).mono ?_)
  rintro e w1 ⟨rfl, hb1⟩
  have hb1' := below_call hb0 hb1
  clear hX hb0 hb1 c0 c1 c2 c3 c4 c5 c6 c7 c8 c9 c10 c11 c12
  go_wp2_with fail
  go_ret2
  exact ⟨rfl, hb1'⟩

set_option maxHeartbeats 3200000 in
theorem pbuild_good (p : Pk) (B : Option Addr) (d : Nat) (w : World) (hd : PkD w B d p) (hg : GoodP p) (hu : U32s p) :
    Calls Try.prog 43 #[pkv p B d] w fun e w' => ∃ v, e = .returned (.tuple #[v, .nilIface]) ∧ w'.ownsRow w.heap.size 5 1 v (build p).length ((build p).map bv) ∧ Below w.heap.size w w' := by
  obtain ⟨i0, hi, hz0, hz1, hz2⟩ := info_parts info_u8
  have HG := Lib.hid hg
  have HU := Lib.hid hu
  have HD := Lib.hid hd
  have hsl : (segS p).length ≤ 1480 := by
    have h2 := hg.2.2.2.2.2.2.2
    have h3 : (segS p).length = (if p.fl.proto = 17 then 8 else 20) + p.data.length := seg_len _ _
    split at h3 <;> split at h2 <;> omega
  have HB : Hid (build p = front p (segS p).length (cks (front p (segS p).length 0)) ++ segS p) := rfl
  obtain ⟨tos, id, ttl, ⟨proto, src, sp, dst, dp⟩, sq, ak, flags, win, data⟩ := p
  obtain ⟨⟨hp, -, -⟩, htos, hid, httl, -⟩ := hg
  obtain ⟨hs, hdd, -, -⟩ := hu
  simp only at hp htos hid httl hs hdd
  have hp0 : 0 ≤ proto := by omega
  obtain ⟨tos, rfl⟩ := Int.eq_ofNat_of_zero_le htos.1
  obtain ⟨id, rfl⟩ := Int.eq_ofNat_of_zero_le hid.1
  obtain ⟨ttl, rfl⟩ := Int.eq_ofNat_of_zero_le (show 0 ≤ ttl by omega)
  obtain ⟨proto, rfl⟩ := Int.eq_ofNat_of_zero_le hp0
  obtain ⟨src, rfl⟩ := Int.eq_ofNat_of_zero_le hs.1
  obtain ⟨dst, rfl⟩ := Int.eq_ofNat_of_zero_le hdd.1
  have htos2 : tos ≤ 255 := by omega
  have hid2 : id ≤ 65535 := by omega
  have httl2 : ttl ≤ 255 := by omega
  have hp2 : proto ≤ 255 := by omega
  have hs2 : src ≤ 4294967295 := by omega
  have hd2 : dst ≤ 4294967295 := by omega
  clear htos hid httl hp hp0 hs hdd hd
  have hb0 : Below w.heap.size w (w.alloc (.cells #[.int .i64 (tos : Int), .int .i64 (id : Int), .int .i64 (ttl : Int), .int .i64 (proto : Int), .int .u32 (src : Int), .int .i64 sp, .int .u32 (dst : Int), .int .i64 dp, .int .u32 sq, .int .u32 ak, .int .i64 flags, .int .i64 win, .slice B data.length d] 52)) := (Below.refl _ w).alloc (Nat.le_refl _) _
  have hX : Blk (w.alloc (.cells #[.int .i64 (tos : Int), .int .i64 (id : Int), .int .i64 (ttl : Int), .int .i64 (proto : Int), .int .u32 (src : Int), .int .i64 sp, .int .u32 (dst : Int), .int .i64 dp, .int .u32 sq, .int .u32 ak, .int .i64 flags, .int .i64 win, .slice B data.length d] 52)) w.heap.size 52 (pkc ⟨tos, id, ttl, ⟨proto, src, sp, dst, dp⟩, sq, ak, flags, win, data⟩ B d) := Blk.new w _ _
  go_enter Try.func43, Try.ntmps43
  go_upto_region 1 with (fail)
  generalize w.alloc (.cells #[.int .i64 (tos : Int), .int .i64 (id : Int), .int .i64 (ttl : Int), .int .i64 (proto : Int), .int .u32 (src : Int), .int .i64 sp, .int .u32 (dst : Int), .int .i64 dp, .int .u32 sq, .int .u32 ak, .int .i64 flags, .int .i64 win, .slice B data.length d] 52) = wa at *
  obtain ⟨c0, c1, c2, c3, c4, c5, c6, c7, c8, c9, c10, c11, c12⟩ := blk13 hX
  go_wp2_with fail
  (with_reducible refine (pcheck_good ⟨tos, id, ttl, ⟨proto, src, sp, dst, dp⟩, sq, ak, flags, win, data⟩ B d wa HG.out).mono ?_)
  rintro e w1 ⟨rfl, hb1⟩
  have hb1' := below_call hb0 hb1
  have hX1 := hX.kept hb1
  clear hX hb0 hb1 c0 c1 c2 c3 c4 c5 c6 c7 c8 c9 c10 c11 c12
  obtain ⟨c0, c1, c2, c3, c4, c5, c6, c7, c8, c9, c10, c11, c12⟩ := blk13 hX1
  go_wp2_with fail
  (with_reducible refine (segment_any ⟨tos, id, ttl, ⟨proto, src, sp, dst, dp⟩, sq, ak, flags, win, data⟩ B d w1 (PkD.below HD.out hb1') HG.out HU.out).mono ?_)
  rintro e w2 ⟨vs, rfl, hO2, hb2⟩
  have hb2' := below_call hb1' hb2
  have hX2 := hX1.kept hb2
  have hgl := hX2.lt
  generalize hsg : segS ⟨tos, id, ttl, ⟨proto, src, sp, dst, dp⟩, sq, ak, flags, win, data⟩ = sg at *
  have HSG := Lib.hid hsg
  clear hsg hX1 hb1' hb2 c0 c1 c2 c3 c4 c5 c6 c7 c8 c9 c10 c11 c12 HD HU HG
  obtain ⟨Bs, cs, rfl, hcs, hRs, -⟩ := own_form hO2
  replace hRs : RB w2 Bs sg := hRs
  have hs2w : w.heap.size ≤ w2.heap.size := hb2'.size
  go_wp2_with (at_make; refine wpList_make_own _ rfl _ _ 91 rfl w2.heap.size 5 i0 (.int .u8 0) 1 Try.underlying91 hi hz0 hz1 .i64 .i64 _ (20 + sg.length) rfl rfl (by omega) (by rw [hz2]; omega) (by unfold maxLen; omega) (Nat.le_refl _) ?_)
  intro w3 hO3 hg3
  have hb3 : Below w2.heap.size w2 w3 := (Below.refl _ _).grown hg3 (Nat.le_refl _) (fun k hk => by cases hk)
  have hb3' := below_call hb2' hb3
  have hX3 := hX2.kept hb3
  have hRs3 := hRs.below hb3
  have hRsB : ∀ w', Below w2.heap.size w3 w' → RB w' Bs sg := fun w' hb' => hRs.below (hb3.trans hb')
  have hlt23 : w2.heap.size < w3.heap.size := (own_lt hO3 rfl).2
  clear hX2 hb2' hg3
  go_upto_region 6 with (fail)
  have hb4' := below_al hb3' (.cells #[.slice (some ⟨w2.heap.size, 0, none⟩) 0 (20 + sg.length)] 91)
  have hX4 := hX3.alloc (.cells #[.slice (some ⟨w2.heap.size, 0, none⟩) 0 (20 + sg.length)] 91)
  have hW4 : WrC (w3.alloc (.cells #[.slice (some ⟨w2.heap.size, 0, none⟩) 0 (20 + sg.length)] 91)) w2.heap.size w3.heap.size [] (.slice (some ⟨w2.heap.size, 0, none⟩) 0 (20 + sg.length)) := ⟨Blk.new w3 _ _, hO3.alloc _, by simp only [slice_own]; intro e; injection e with e; omega, by omega⟩
  have HRS : Hid (∀ w' : World, Below w2.heap.size (w3.alloc (.cells #[.slice (some ⟨w2.heap.size, 0, none⟩) 0 (20 + sg.length)] 91)) w' → RB w' Bs sg) := fun w' hb' => hRsB w' (((Below.refl _ w3).alloc (by omega) _).trans hb')
  generalize w3.alloc (.cells #[.slice (some ⟨w2.heap.size, 0, none⟩) 0 (20 + sg.length)] 91) = w4 at *
  generalize w3.heap.size = g at *
  clear hO3 hX3 hb3' hb3 hRs3 hRsB
  obtain ⟨c0, c1, c2, c3, c4, c5, c6, c7, c8, c9, c10, c11, c12⟩ := blk13 hX4
  have cW := hW4.blk.cell 0
  simp only [List.getElem?_cons_zero] at cW
  have hlt := hW4.blk.lt
  obtain ⟨y, hy, HY⟩ : ∃ y : UInt8, (tos : Int) = (y.toNat : Int) ∧ Hid (y = UInt8.ofNat tos) := ⟨_, by rw [UInt8.toNat_ofNat']; omega, rfl⟩
  have hyl : (y.toNat : Int) % 256 = (y.toNat : Int) := by have := y.toNat_lt; omega
  go_wp2_with (at_builtin; refine wl_app _ rfl (.tmp 18) (.tmp 22) 91 rfl w2.heap.size 5 i0 (.int .u8 0) 1 1 Try.underlying91 hi hz0 hz1 hz2 rfl (by omega) (.slice (some ⟨w2.heap.size, 0, none⟩) 0 (20 + sg.length)) 0 (([] : List UInt8).map bv) rfl (hW4.own.alloc _) (some ⟨w4.heap.size, 0, none⟩) 2 2 [.int .u8 69, .int .u8 (y.toNat : Int)] rfl rfl (rc_new w4 _ _) (by simp [Value.oneCell']) (by unfold maxLen; omega) (by omega) (by simp; omega) ?_)
  intro v5 w5 hO5 hg5 hat5
  obtain ⟨hW5, hb45, cW5, fW5⟩ := hW4.app (lit := [69, y]) rfl rfl hO5 hg5 hat5
  rw [List.nil_append] at hW5
  obtain ⟨B5, k5, rfl, -, -, -⟩ := own_form hO5
  have hlt5 : g < w5.heap.size := by have := hg5.size; simp at this; omega
  clear hO5 hg5 hat5 cW hyl
  go_upto_region 7 with (fail)
  have hX5 := hX4.below hb45 (by omega)
  have hb5' := hb4'.trans (hb45.mono hs2w)
  have HRS5 := HRS.out
  generalize w5.setCell ⟨g, 0, none⟩ (.slice B5 2 k5) = w6 at *
  clear hX4 hW4 hb4' cW5 fW5 c0 c1 c2 c3 c4 c5 c6 c7 c8 c9 c10 c11 c12
  obtain ⟨c0, c1, c2, c3, c4, c5, c6, c7, c8, c9, c10, c11, c12⟩ := blk13 hX5
  go_wp2_with fail
  (with_reducible refine (two3C w2.heap.size g [69, y] _ (20 + sg.length) id 16384 (20 + (sg.length : Int)) _ 16384 w6 hW5 (by simp) (by omega) hid2 (by omega) (by omega) rfl rfl rfl).mono ?_)
  rintro e w7 ⟨v7, x7, rfl, hW7, hb67⟩
  have hX7 := hX5.below hb67 (by omega)
  have hb7' := hb5'.trans (hb67.mono hs2w)
  have hb47 := hb45.trans hb67
  have hq7 : ([69, y] ++ (be 2 (20 + sg.length) ++ be 2 id ++ be 2 16384)).length = 8 := by simp [be_len]
  generalize hq : [69, y] ++ (be 2 (20 + sg.length) ++ be 2 id ++ be 2 16384) = q at *
  have HQ := Lib.hid hq
  have HQL := Lib.hid hq7
  clear hq hq7 hX5 hW5 hb5' hb67 hb45 c0 c1 c2 c3 c4 c5 c6 c7 c8 c9 c10 c11 c12
  obtain ⟨c0, c1, c2, c3, c4, c5, c6, c7, c8, c9, c10, c11, c12⟩ := blk13 hX7
  obtain ⟨B7, k7, hv7, -, -, -⟩ := own_form hW7.own
  subst hv7
  rw [HQL.out] at hW7
  have cW := hW7.blk.cell 0
  simp only [List.getElem?_cons_zero] at cW
  have hlt7 := hW7.blk.lt
  obtain ⟨t, ht, HT⟩ : ∃ y : UInt8, (ttl : Int) = (y.toNat : Int) ∧ Hid (y = UInt8.ofNat ttl) := ⟨_, by rw [UInt8.toNat_ofNat']; omega, rfl⟩
  have htl : (t.toNat : Int) % 256 = (t.toNat : Int) := by have := t.toNat_lt; omega
  obtain ⟨r, hr, HR⟩ : ∃ y : UInt8, (proto : Int) = (y.toNat : Int) ∧ Hid (y = UInt8.ofNat proto) := ⟨_, by rw [UInt8.toNat_ofNat']; omega, rfl⟩
  have hrl : (r.toNat : Int) % 256 = (r.toNat : Int) := by have := r.toNat_lt; omega
  have hO7 := hW7.own
  rw [HQL.out] at hO7
  go_wp2_with (at_builtin; refine wl_app _ rfl (.tmp 31) (.tmp 39) 91 rfl w2.heap.size 5 i0 (.int .u8 0) 1 1 Try.underlying91 hi hz0 hz1 hz2 rfl (by omega) (.slice B7 8 k7) 8 (q.map bv) rfl (hO7.alloc _) (some ⟨w7.heap.size, 0, none⟩) 4 4 [.int .u8 (t.toNat : Int), .int .u8 (r.toNat : Int), .int .u8 0, .int .u8 0] rfl rfl (rc_new w7 _ _) (by simp [Value.oneCell']) (by unfold maxLen; omega) (by omega) (by simp; omega) ?_)
  intro v8 w8 hO8 hg8 hat8
  obtain ⟨hW8, hb78, cW8, fW8⟩ := hW7.app (lit := [t, r, 0, 0]) (by rw [List.length_append, HQL.out]; rfl) (by rw [List.map_append]; rfl) hO8 hg8 hat8
  obtain ⟨B8, k8, rfl, -, -, -⟩ := own_form hO8
  have hlt8 : g < w8.heap.size := by have := hg8.size; simp at this; omega
  clear hO8 hg8 hat8 cW htl hrl hO7
  go_upto_region 9 with (fail)
  have hX8 := hX7.below hb78 (by omega)
  have hb8' := hb7'.trans (hb78.mono hs2w)
  have hb48 := hb47.trans hb78
  have hq8 : (q ++ [t, r, 0, 0]).length = 12 := by simp [HQL.out]
  generalize hqq : q ++ [t, r, 0, 0] = q2 at *
  have HQ2 := Lib.hid hqq
  have HQ2L := Lib.hid hq8
  generalize w8.setCell ⟨g, 0, none⟩ (.slice B8 12 k8) = w9 at *
  clear hX7 hW7 hb7' hb47 hb78 cW8 fW8 hqq hq8 c0 c1 c2 c3 c4 c5 c6 c7 c8 c9 c10 c11 c12
  obtain ⟨c0, c1, c2, c3, c4, c5, c6, c7, c8, c9, c10, c11, c12⟩ := blk13 hX8
  go_wp2_with fail
  (with_reducible refine (four2C w2.heap.size g q2 _ src dst _ _ w9 hW8 (by rw [HQ2L.out]; omega) hs2 hd2 rfl rfl rfl).mono ?_)
  rintro e w10 ⟨v10, x10, rfl, hW10, hb910⟩
  have hb10' := hb8'.trans (hb910.mono hs2w)
  have hb410 := hb48.trans hb910
  have HFR : Hid (q2 ++ (be 4 src ++ be 4 dst) = front ⟨tos, id, ttl, ⟨proto, src, sp, dst, dp⟩, sq, ak, flags, win, data⟩ sg.length 0) := by
    show q2 ++ _ = _
    rw [← HQ2.out, ← HQ.out, HY.out, HT.out, HR.out]
    unfold front
    simp [be2]
  have hfl := front_len ⟨tos, id, ttl, ⟨proto, src, sp, dst, dp⟩, sq, ak, flags, win, data⟩ sg.length 0
  rw [HFR.out] at hW10
  generalize hfr : front ⟨tos, id, ttl, ⟨proto, src, sp, dst, dp⟩, sq, ak, flags, win, data⟩ sg.length 0 = fr at *
  have HFR2 := Lib.hid hfr
  have HFL := Lib.hid hfl
  clear hX8 hW8 hb8' hb48 hb910 c0 c1 c2 c3 c4 c5 c6 c7 c8 c9 c10 c11 c12 HQ HQL HQ2 HQ2L HFR HY HT HR hfr hfl
  obtain ⟨hB10, hO10, hne10, -⟩ := hW10
  rw [HFL.out] at hO10
  obtain ⟨B10, k10, rfl, hk10, hR10, -⟩ := own_form hO10
  replace hR10 : RB w10 B10 fr := hR10
  have cW := hB10.cell 0
  simp only [List.getElem?_cons_zero] at cW
  have hlt10 := hB10.lt
  go_upto_region 10 with (fail)
  have hcur : Below w10.heap.size w10 w10.drew := Below.drew (Below.refl _ w10)
  have hck := cks_le fr
  generalize hcc : cks fr = c0 at *
  have HCC := Lib.hid hcc
  clear hcc
  have hwl : ∀ b, (Value.slice B10 20 k10).ownBlock = some b → w2.heap.size ≤ b := fun b e => (own_lt hO10 e).1
  have HWL := Lib.hid hwl
  clear hwl
  have hRP : RP (w10.alloc (.cells #[.slice B10 20 k10] 22)).drew (some ⟨w10.heap.size, 0, none⟩) [fr] := rp1_at w10 22 B10 20 k10 fr HFL.out hk10 hR10 rfl
  have hcu2 : Below w10.heap.size w10 (w10.alloc (.cells #[.slice B10 20 k10] 22)).drew := Below.drew ((Below.refl _ w10).alloc (Nat.le_refl _) _)
  have hO11 : (w10.alloc (.cells #[.slice B10 20 k10] 22)).drew.ownsRow w2.heap.size 5 1 (.slice B10 20 k10) 20 (fr.map bv) := hO10.alloc _
  have hB11 : Blk (w10.alloc (.cells #[.slice B10 20 k10] 22)).drew g 91 [.slice B10 20 k10] := hB10.alloc _
  go_region_held3 (fun w' => w'.cell? ⟨g, 0, none⟩ = some (.slice B10 20 k10))
    (first | with_reducible exact cW | with_reducible exact cell_keep hcur cW | with_reducible exact cell_keep hcu2 cW | with_reducible exact cW12)
    (first
      | (go_at_call 61; (with_reducible refine (sum1_any fr _ 1 _ hRP (by rw [HFL.out]; omega)).mono ?_); rintro e w11 ⟨rfl, rfl⟩; rw [HCC.out])
      | (go_at_call 60; (with_reducible refine (put_i w2.heap.size k10 10 c0 20 10 _ _ fr _ hO11 HFL.out (by omega) (by omega) hck rfl rfl).mono ?_); rintro e w12 ⟨x12, rfl, hO12, hg12⟩; have hB12 := hB11.grown hg12 (fun e => hne10 e.symm); have cW12 := hB12.cell 0; simp only [List.getElem?_cons_zero] at cW12))
  all_goals
    have hs10 : w2.heap.size ≤ w10.heap.size := by omega
    have hb412 : Below w2.heap.size w4 w12 := (hb410.trans (hcu2.mono hs10)).grown hg12 (by simp; omega) HWL.out
    have hb12' : Below w.heap.size w w12 := (hb10'.trans (hcu2.mono (by omega))).grown hg12 (by simp; omega) (fun b e => by have := HWL.out b e; omega)
    have hRs12 := HRS.out w12 hb412
    have hl12 : ((fr.set 10 (UInt8.ofNat (c0 / 256))).set (10 + 1) (UInt8.ofNat c0)).length = 20 := by simp [HFL.out]
    have HF12 : Hid ((fr.set 10 (UInt8.ofNat (c0 / 256))).set (10 + 1) (UInt8.ofNat c0) = front ⟨tos, id, ttl, ⟨proto, src, sp, dst, dp⟩, sq, ak, flags, win, data⟩ sg.length c0) := by
      show List.set _ _ _ = _
      rw [← HFR2.out]
      exact front_set _ _ _
    generalize (fr.set 10 (UInt8.ofNat (c0 / 256))).set (10 + 1) (UInt8.ofNat c0) = f2 at *
    have HL12 := Lib.hid hl12
    clear hl12 hcur hcu2 hRP hO11 hB11 hg12 hb410 hb10' hb412
    have hlt12 := hB12.lt
    have hs12 : w2.heap.size ≤ w12.heap.size := by omega
    go_wp2_with (at_builtin; refine wl_appU _ rfl (.tmp 54) (.tmp 55) 91 22 rfl w2.heap.size 5 5 i0 (.int .u8 0) 1 1 Try.underlying91 Try.underlying22 hi hz0 hz1 hz2 rfl (by omega) (.slice B10 20 k10) 20 (f2.map bv) rfl hO12 Bs sg.length cs (sg.map bv) rfl (by simp) hRs12 (one_bv sg) (by unfold maxLen; omega) (by omega) hs12 ?_)
    intro v13 w13 hO13 hg13 _
    have hb13 : Below w.heap.size w w13 := hb12'.grown hg13 (by omega) (fun b e => by have := (own_lt hO12 e).1; omega)
    have hfin : w13.ownsRow w.heap.size 5 1 v13 (build ⟨tos, id, ttl, ⟨proto, src, sp, dst, dp⟩, sq, ak, flags, win, data⟩).length ((build ⟨tos, id, ttl, ⟨proto, src, sp, dst, dp⟩, sq, ak, flags, win, data⟩).map bv) := by
      rw [HB.out, ← HF12.out, List.length_append, HL12.out, List.map_append]
      exact own_weaken hO13 (by omega)
    clear hO13 hg13 hB12 hO12 hRs12 hb12'
    obtain ⟨B13, k13, rfl, -, -, -⟩ := own_form hfin
    go_wp2_with fail
    go_ret2
    exact ⟨_, rfl, hfin, hb13⟩
end Go.Proofs.Ytbhdjalpkecbeaa
