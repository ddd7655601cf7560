/- The walks of the document's with, front. -/
import Derived.Test.YtbhdjalpkecbeaaRefPkt
import Derived.Test.YtbhdjalpkecbeaaOpn
namespace Go.Proofs.Ytbhdjalpkecbeaa
set_option linter.unusedVariables false
set_option linter.unusedSimpArgs false
open Go.RowKit

theorem nn {x : Int} (h : 0 ≤ x) : x = ((x.toNat : Nat) : Int) := (Int.toNat_of_nonneg h).symm
theorem keep89 {wa w' : World} {g : Nat} {p : Pk} {B : Option Addr} {d : Nat} (h : Blk wa g 52 (pkc p B d)) (hb : Below wa.heap.size wa w') (hg : g < wa.heap.size) : w'.cell? ⟨g, 8, none⟩ = some (.int .u32 p.seq) ∧ w'.cell? ⟨g, 9, none⟩ = some (.int .u32 p.ack) := by
  have h2 := blk13 (h.below hb hg)
  exact ⟨h2.2.2.2.2.2.2.2.2.1, h2.2.2.2.2.2.2.2.2.2.1⟩
set_option maxRecDepth 100000 in
set_option maxHeartbeats 3200000 in
theorem rwith_udp (p : Pk) (B : Option Addr) (d c : Nat) (c' : Int) (w : World) (hd : PkD w B d p) (hg : GoodP p) (hu : U32s p) (hc : c ≤ 65535) (ec : c' = (c : Int)) (h17 : p.fl.proto = 17) :
    Calls Try.prog 37 #[pkv p B d, .int .i64 c'] w fun e w' => ∃ v, e = .returned v ∧ w'.ownsRow w.heap.size 5 1 v (seg p c).length ((seg p c).map bv) ∧ Below w.heap.size w w' := by
  subst ec
  obtain ⟨i0, hi, hz0, hz1, hz2⟩ := info_parts info_u8
  have hb0 : Below w.heap.size w (w.alloc (.cells #[.int .i64 p.tos, .int .i64 p.id, .int .i64 p.ttl, .int .i64 p.fl.proto, .int .u32 p.fl.src, .int .i64 p.fl.sp, .int .u32 p.fl.dst, .int .i64 p.fl.dp, .int .u32 p.seq, .int .u32 p.ack, .int .i64 p.flags, .int .i64 p.win, .slice B p.data.length d] 52)) := (Below.refl _ w).alloc (Nat.le_refl _) _
  have hX : Blk (w.alloc (.cells #[.int .i64 p.tos, .int .i64 p.id, .int .i64 p.ttl, .int .i64 p.fl.proto, .int .u32 p.fl.src, .int .i64 p.fl.sp, .int .u32 p.fl.dst, .int .i64 p.fl.dp, .int .u32 p.seq, .int .u32 p.ack, .int .i64 p.flags, .int .i64 p.win, .slice B p.data.length d] 52)) w.heap.size 52 (pkc p B d) := Blk.new w _ _
  have hda := hd.below hb0
  have hg8 := hg.2.2.2.2.2.2.2
  rw [if_pos h17] at hg8
  have hsp := hg.1.2.1
  have hdp := hg.1.2.2
  have nsp := Lib.hid (nn hsp.1)
  have ndp := Lib.hid (nn hdp.1)
  have lsp : p.fl.sp.toNat ≤ 65535 := by omega
  have ldp : p.fl.dp.toNat ≤ 65535 := by omega
  have HS : Hid (seg p c = be 2 p.fl.sp.toNat ++ be 2 p.fl.dp.toNat ++ be 2 (8 + p.data.length) ++ be 2 c ++ p.data) := by show seg p c = _; unfold seg segU; rw [if_pos h17]
  have H17 := Lib.hid h17
  clear hsp hdp hg hu h17
  go_enter Try.func37, Try.ntmps37
  go_upto_region 2 with (fail)
  have hs0 : w.heap.size < (w.alloc (.cells #[.int .i64 p.tos, .int .i64 p.id, .int .i64 p.ttl, .int .i64 p.fl.proto, .int .u32 p.fl.src, .int .i64 p.fl.sp, .int .u32 p.fl.dst, .int .i64 p.fl.dp, .int .u32 p.seq, .int .u32 p.ack, .int .i64 p.flags, .int .i64 p.win, .slice B p.data.length d] 52)).heap.size := hX.lt
  generalize (w.alloc (.cells #[.int .i64 p.tos, .int .i64 p.id, .int .i64 p.ttl, .int .i64 p.fl.proto, .int .u32 p.fl.src, .int .i64 p.fl.sp, .int .u32 p.fl.dst, .int .i64 p.fl.dp, .int .u32 p.seq, .int .u32 p.ack, .int .i64 p.flags, .int .i64 p.win, .slice B p.data.length d] 52)) = wa at *
  obtain ⟨c0, c1, c2, c3, c4, c5, c6, c7, c8, c9, c10, c11, c12⟩ := blk13 hX
  have h17 := H17.out
  rw [h17] at c3
  clear h17
  have hcur : Below wa.heap.size wa wa.drew := Below.drew (Below.refl _ wa)
  have hO0 : wa.drew.ownsRow wa.heap.size 5 1 (.slice none 0 0) ([] : List UInt8).length (([] : List UInt8).map bv) := World.ownsRow_nil _ _ _ _
  go_region_held3 (fun w' => w'.cell? ⟨w.heap.size, 5, none⟩ = some (.int .i64 p.fl.sp) ∧ w'.cell? ⟨w.heap.size, 7, none⟩ = some (.int .i64 p.fl.dp))
    (first | with_reducible exact ⟨c5, c7⟩ | with_reducible exact keep2 hcur c5 c7)
    (first
      | (go_at_call 39; (with_reducible refine (rtwo_any wa.heap.size [] _ p.fl.sp.toNat p.fl.sp _ hO0 (Nat.le_refl _) (Nat.zero_le _) lsp nsp.out).mono ?_); rintro e w6 ⟨v6, rfl, hO6, hb6⟩; have hO1 := Lib.hid hO6; clear hO6; replace hcur := hcur.trans hb6)
      | (go_at_call 39; (with_reducible refine (rtwo_any wa.heap.size ([] ++ be 2 p.fl.sp.toNat) v6 p.fl.dp.toNat p.fl.dp _ hO1.out hcur.size (by simp [be_len]) ldp ndp.out).mono ?_); rintro e w7 ⟨v7, rfl, hO7, hb7⟩; have hO2 := Lib.hid hO7; clear hO7; replace hcur := hcur.trans hb7))
  have hX7 := hX.below hcur hs0
  have hs7 := hcur.size
  clear c0 c1 c2 c3 c4 c5 c6 c7 c8 c9 c10 c11 c12
  obtain ⟨c0, c1, c2, c3, c4, c5, c6, c7, c8, c9, c10, c11, c12⟩ := blk13 hX7
  have h17 := H17.out
  rw [h17] at c3
  clear h17 hb6 hb7 hO0 hO1
  have q8 : IntKind.i64.wrap (8 + (p.data.length : Int)) = 8 + (p.data.length : Int) := IntWalk.i64_in _ (by omega)
  go_wp2_with fail
  (with_reducible refine (rtwo_any wa.heap.size _ v7 (8 + p.data.length) _ w7 hO2.out hs7 (by simp [be_len]) (by omega) (by omega)).mono ?_)
  rintro e w8 ⟨v8, rfl, hO8, hb8⟩
  have hO3 := Lib.hid hO8
  have hs8 := hb8.size
  have hb78 := hcur.trans hb8
  clear hO8
  go_wp2_with fail
  (with_reducible refine (rtwo_any wa.heap.size _ v8 c _ w8 hO3.out (by omega) (by simp [be_len]) hc rfl).mono ?_)
  rintro e w9 ⟨v9, rfl, hO9, hb9⟩
  have hb79 := hb78.trans hb9
  have hX9 := hX.below hb79 hs0
  have hd9 := hda.2.below hb79
  have hl9 : ([] ++ be 2 p.fl.sp.toNat ++ be 2 p.fl.dp.toNat ++ be 2 (8 + p.data.length) ++ be 2 c).length = 8 := by simp [be_len]
  have HQ : Hid (seg p c = ([] ++ be 2 p.fl.sp.toNat ++ be 2 p.fl.dp.toNat ++ be 2 (8 + p.data.length) ++ be 2 c) ++ p.data) := by show seg p c = _; rw [HS.out]; rfl
  generalize [] ++ be 2 p.fl.sp.toNat ++ be 2 p.fl.dp.toNat ++ be 2 (8 + p.data.length) ++ be 2 c = l9 at *
  rw [hl9] at hO9
  have HO9 := Lib.hid hO9
  have hs9 := hb79.size
  clear c0 c1 c2 c3 c4 c5 c6 c7 c8 c9 c10 c11 c12
  obtain ⟨c0, c1, c2, c3, c4, c5, c6, c7, c8, c9, c10, c11, c12⟩ := blk13 hX9
  clear hO9 hO2 hO3 hX7 HS hb78 hb9 hb8
  go_wp2_with (at_builtin; refine wl_app _ rfl (.tmp 47) (.tmp 49) 22 rfl wa.heap.size 5 i0 (.int .u8 0) 1 1 Try.underlying22 hi hz0 hz1 hz2 rfl (by omega) v9 8 (l9.map bv) rfl HO9.out B p.data.length d (p.data.map bv) rfl (by simp) hd9 (one_bv p.data) (by unfold maxLen; omega) (by omega) (by omega) ?_)
  intro v10 w10 hO10 hg10 _
  have hb10 : Below w.heap.size w w10 := (hb0.trans (hb79.mono (by omega))).grown hg10 (by omega) (fun g hg => by have := (HO9.out.lt g hg).1; omega)
  have HO10 : Hid (w10.ownsRow w.heap.size 5 1 v10 (seg p c).length ((seg p c).map bv)) := by
    show w10.ownsRow _ _ _ _ _ _
    rw [HQ.out, List.length_append, hl9, List.map_append]
    exact own_weaken hO10 (by omega)
  clear hO10 hg10
  go_wp2_with fail
  go_ret
  exact ⟨_, rfl, HO10.out, hb10⟩
set_option maxRecDepth 100000 in
set_option maxHeartbeats 3200000 in
theorem rwith_tcp (p : Pk) (B : Option Addr) (d c : Nat) (c' : Int) (w : World) (hd : PkD w B d p) (hg : GoodP p) (hu : U32s p) (hc : c ≤ 65535) (ec : c' = (c : Int)) (h6 : p.fl.proto = 6) :
    Calls Try.prog 37 #[pkv p B d, .int .i64 c'] w fun e w' => ∃ v, e = .returned v ∧ w'.ownsRow w.heap.size 5 1 v (seg p c).length ((seg p c).map bv) ∧ Below w.heap.size w w' := by
  subst ec
  obtain ⟨i0, hi, hz0, hz1, hz2⟩ := info_parts info_u8
  have hb0 : Below w.heap.size w (w.alloc (.cells #[.int .i64 p.tos, .int .i64 p.id, .int .i64 p.ttl, .int .i64 p.fl.proto, .int .u32 p.fl.src, .int .i64 p.fl.sp, .int .u32 p.fl.dst, .int .i64 p.fl.dp, .int .u32 p.seq, .int .u32 p.ack, .int .i64 p.flags, .int .i64 p.win, .slice B p.data.length d] 52)) := (Below.refl _ w).alloc (Nat.le_refl _) _
  have hX : Blk (w.alloc (.cells #[.int .i64 p.tos, .int .i64 p.id, .int .i64 p.ttl, .int .i64 p.fl.proto, .int .u32 p.fl.src, .int .i64 p.fl.sp, .int .u32 p.fl.dst, .int .i64 p.fl.dp, .int .u32 p.seq, .int .u32 p.ack, .int .i64 p.flags, .int .i64 p.win, .slice B p.data.length d] 52)) w.heap.size 52 (pkc p B d) := Blk.new w _ _
  have hda := hd.below hb0
  have hg8 := hg.2.2.2.2.2.2.2
  rw [if_neg (by rw [h6]; omega)] at hg8
  have hsp := hg.1.2.1
  have hdp := hg.1.2.2
  have nsp := Lib.hid (nn hsp.1)
  have ndp := Lib.hid (nn hdp.1)
  have lsp : p.fl.sp.toNat ≤ 65535 := by omega
  have ldp : p.fl.dp.toNat ≤ 65535 := by omega
  have nsq := Lib.hid (nn hu.2.2.1.1)
  have nak := Lib.hid (nn hu.2.2.2.1)
  have nwn := Lib.hid (nn hg.2.2.2.2.2.1.1)
  have lsq : p.seq.toNat ≤ 4294967295 := by have := hu.2.2.1; omega
  have lak : p.ack.toNat ≤ 4294967295 := by have := hu.2.2.2; omega
  have lwn : p.win.toNat ≤ 65535 := by have := hg.2.2.2.2.2.1; omega
  have hfl := hg.2.2.2.2.1
  obtain ⟨x, hx, HX⟩ : ∃ x : UInt8, p.flags % 256 = (x.toNat : Int) ∧ Hid (x = UInt8.ofNat p.flags.toNat) := ⟨UInt8.ofNat p.flags.toNat, by rw [UInt8.toNat_ofNat']; omega, rfl⟩
  have HS : Hid (seg p c = be 2 p.fl.sp.toNat ++ be 2 p.fl.dp.toNat ++ be 4 p.seq.toNat ++ be 4 p.ack.toNat ++ [80, x] ++ be 2 p.win.toNat ++ be 2 c ++ be 2 0 ++ p.data) := by show seg p c = _; unfold seg segT; rw [if_neg (by rw [h6]; omega), HX.out]
  have H17 := Lib.hid h6
  clear hsp hdp hg hu h6 hfl HX
  go_enter Try.func37, Try.ntmps37
  go_upto_region 2 with (fail)
  have hs0 : w.heap.size < (w.alloc (.cells #[.int .i64 p.tos, .int .i64 p.id, .int .i64 p.ttl, .int .i64 p.fl.proto, .int .u32 p.fl.src, .int .i64 p.fl.sp, .int .u32 p.fl.dst, .int .i64 p.fl.dp, .int .u32 p.seq, .int .u32 p.ack, .int .i64 p.flags, .int .i64 p.win, .slice B p.data.length d] 52)).heap.size := hX.lt
  generalize (w.alloc (.cells #[.int .i64 p.tos, .int .i64 p.id, .int .i64 p.ttl, .int .i64 p.fl.proto, .int .u32 p.fl.src, .int .i64 p.fl.sp, .int .u32 p.fl.dst, .int .i64 p.fl.dp, .int .u32 p.seq, .int .u32 p.ack, .int .i64 p.flags, .int .i64 p.win, .slice B p.data.length d] 52)) = wa at *
  obtain ⟨c0, c1, c2, c3, c4, c5, c6, c7, c8, c9, c10, c11, c12⟩ := blk13 hX
  have h6 := H17.out
  rw [h6] at c3
  clear h6
  have hcur : Below wa.heap.size wa wa.drew := Below.drew (Below.refl _ wa)
  have hO0 : wa.drew.ownsRow wa.heap.size 5 1 (.slice none 0 0) ([] : List UInt8).length (([] : List UInt8).map bv) := World.ownsRow_nil _ _ _ _
  go_region_held3 (fun w' => w'.cell? ⟨w.heap.size, 5, none⟩ = some (.int .i64 p.fl.sp) ∧ w'.cell? ⟨w.heap.size, 7, none⟩ = some (.int .i64 p.fl.dp))
    (first | with_reducible exact ⟨c5, c7⟩ | with_reducible exact keep2 hcur c5 c7)
    (first
      | (go_at_call 39; (with_reducible refine (rtwo_any wa.heap.size [] _ p.fl.sp.toNat p.fl.sp _ hO0 (Nat.le_refl _) (Nat.zero_le _) lsp nsp.out).mono ?_); rintro e w6 ⟨v6, rfl, hO6, hb6⟩; have hO1 := Lib.hid hO6; clear hO6; replace hcur := hcur.trans hb6)
      | (go_at_call 39; (with_reducible refine (rtwo_any wa.heap.size ([] ++ be 2 p.fl.sp.toNat) v6 p.fl.dp.toNat p.fl.dp _ hO1.out hcur.size (by simp [be_len]) ldp ndp.out).mono ?_); rintro e w7 ⟨v7, rfl, hO7, hb7⟩; have hO2 := Lib.hid hO7; clear hO7; replace hcur := hcur.trans hb7))
  have hX7 := hX.below hcur hs0
  have hs7 := hcur.size
  clear c0 c1 c2 c3 c4 c5 c6 c7 c8 c9 c10 c11 c12
  obtain ⟨c0, c1, c2, c3, c4, c5, c6, c7, c8, c9, c10, c11, c12⟩ := blk13 hX7
  have h6 := H17.out
  rw [h6] at c3
  clear h6 hb6 hb7 hO0 hO1
  go_upto_region 5 with (fail)
  have hcu2 : Below wa.heap.size wa w7.drew := Below.drew hcur
  have hO2d : Hid (w7.drew.ownsRow wa.heap.size 5 1 v7 ([] ++ be 2 p.fl.sp.toNat ++ be 2 p.fl.dp.toNat).length (([] ++ be 2 p.fl.sp.toNat ++ be 2 p.fl.dp.toNat).map bv)) := hO2.out
  go_region_held3 (fun w' => w'.cell? ⟨w.heap.size, 8, none⟩ = some (.int .u32 p.seq) ∧ w'.cell? ⟨w.heap.size, 9, none⟩ = some (.int .u32 p.ack))
    (first | with_reducible exact ⟨c8, c9⟩ | with_reducible exact keep89 hX hcu2 hs0)
    (first
      | (go_at_call 38; (with_reducible refine (rfour_any wa.heap.size _ v7 p.seq.toNat p.seq _ hO2d.out hcu2.size (by simp [be_len]) lsq nsq.out).mono ?_); rintro e w8 ⟨v8, rfl, hO8, hb8⟩; have hO3 := Lib.hid hO8; clear hO8; replace hcu2 := hcu2.trans hb8)
      | (go_at_call 38; (with_reducible refine (rfour_any wa.heap.size _ v8 p.ack.toNat p.ack _ hO3.out hcu2.size (by simp [be_len]) lak nak.out).mono ?_); rintro e w9 ⟨v9, rfl, hO9, hb9⟩; have hO4 := Lib.hid hO9; clear hO9; replace hcu2 := hcu2.trans hb9))
  have hX9 := hX.below hcu2 hs0
  have hs9 := hcu2.size
  clear c0 c1 c2 c3 c4 c5 c6 c7 c8 c9 c10 c11 c12
  obtain ⟨c0, c1, c2, c3, c4, c5, c6, c7, c8, c9, c10, c11, c12⟩ := blk13 hX9
  have hl4 : ([] ++ be 2 p.fl.sp.toNat ++ be 2 p.fl.dp.toNat ++ be 4 p.seq.toNat ++ be 4 p.ack.toNat).length = 12 := by simp [be_len]
  have hO4' := hO4.out
  rw [hl4] at hO4'
  have HS2 : Hid (seg p c = ([] ++ be 2 p.fl.sp.toNat ++ be 2 p.fl.dp.toNat ++ be 4 p.seq.toNat ++ be 4 p.ack.toNat) ++ [80, x] ++ be 2 p.win.toNat ++ be 2 c ++ be 2 0 ++ p.data) := by show seg p c = _; rw [HS.out]; rfl
  generalize [] ++ be 2 p.fl.sp.toNat ++ be 2 p.fl.dp.toNat ++ be 4 p.seq.toNat ++ be 4 p.ack.toNat = l4 at *
  have HO4 := Lib.hid hO4'
  clear hO4' hO4 hO3 hO2d hO2 HS hX7 hb8 hb9
  go_wp2_with (at_builtin; refine wl_app _ rfl (.tmp 34) (.tmp 38) 22 rfl wa.heap.size 5 i0 (.int .u8 0) 1 1 Try.underlying22 hi hz0 hz1 hz2 rfl (by omega) v9 12 (l4.map bv) rfl (HO4.out.alloc _) (some ⟨w9.heap.size, 0, none⟩) 2 2 [.int .u8 80, .int .u8 (x.toNat : Int)] rfl rfl (rc_two w9 _ _ _) (by simp [Value.oneCell']) (by unfold maxLen; omega) (by omega) (by simp; omega) ?_)
  intro v10 w10 hO10 hg10 _
  have hb10 : Below wa.heap.size wa w10 := (hcu2.alloc hs9 _).grown hg10 (by simp; omega) (fun g hg => (HO4.out.lt g hg).1)
  have HO5 : Hid (w10.ownsRow wa.heap.size 5 1 v10 (l4 ++ [80, x]).length ((l4 ++ [80, x]).map bv)) := by
    show w10.ownsRow _ _ _ _ _ _
    rw [List.length_append, hl4, List.map_append]
    exact hO10
  have hX10 := hX.below hb10 hs0
  have hs10 := hb10.size
  clear hO10 hg10 c0 c1 c2 c3 c4 c5 c6 c7 c8 c9 c10 c11 c12
  obtain ⟨c0, c1, c2, c3, c4, c5, c6, c7, c8, c9, c10, c11, c12⟩ := blk13 hX10
  go_wp2_with fail
  (with_reducible refine (rtwo_any wa.heap.size _ v10 p.win.toNat p.win w10 HO5.out hs10 (by rw [List.length_append, hl4]; simp) lwn nwn.out).mono ?_)
  rintro e w11 ⟨v11, rfl, hO11, hb11⟩
  have HO6 := Lib.hid hO11
  have hb11' := hb10.trans hb11
  have hs11 := hb11'.size
  clear hO11
  go_wp2_with fail
  (with_reducible refine (rtwo_any wa.heap.size _ v11 c _ w11 HO6.out hs11 (by simp only [List.length_append, hl4, be_len]; simp) hc rfl).mono ?_)
  rintro e w12 ⟨v12, rfl, hO12, hb12⟩
  have HO7 := Lib.hid hO12
  have hb12' := hb11'.trans hb12
  have hs12 := hb12'.size
  clear hO12
  go_wp2_with fail
  (with_reducible refine (rtwo_any wa.heap.size _ v12 0 0 w12 HO7.out hs12 (by simp only [List.length_append, hl4, be_len]; simp) (by omega) rfl).mono ?_)
  rintro e w13 ⟨v13, rfl, hO13, hb13⟩
  have hb79 := hb12'.trans hb13
  have hX13 := hX.below hb79 hs0
  have hd9 := hda.2.below hb79
  have hl9 : (l4 ++ [80, x] ++ be 2 p.win.toNat ++ be 2 c ++ be 2 0).length = 20 := by simp only [List.length_append, hl4, be_len]; simp
  have HQ : Hid (seg p c = (l4 ++ [80, x] ++ be 2 p.win.toNat ++ be 2 c ++ be 2 0) ++ p.data) := HS2
  generalize l4 ++ [80, x] ++ be 2 p.win.toNat ++ be 2 c ++ be 2 0 = l9 at *
  rw [hl9] at hO13
  have HO9 := Lib.hid hO13
  have hs13 := hb79.size
  clear c0 c1 c2 c3 c4 c5 c6 c7 c8 c9 c10 c11 c12
  obtain ⟨c0, c1, c2, c3, c4, c5, c6, c7, c8, c9, c10, c11, c12⟩ := blk13 hX13
  clear hO13 HO4 HO5 HO6 HO7 hX9 hX10
  go_wp2_with (at_builtin; refine wl_app _ rfl (.tmp 47) (.tmp 49) 22 rfl wa.heap.size 5 i0 (.int .u8 0) 1 1 Try.underlying22 hi hz0 hz1 hz2 rfl (by omega) v13 20 (l9.map bv) rfl HO9.out B p.data.length d (p.data.map bv) rfl (by simp) hd9 (one_bv p.data) (by unfold maxLen; omega) (by omega) (by omega) ?_)
  intro v14 w14 hO14 hg14 _
  have hb14 : Below w.heap.size w w14 := (hb0.trans (hb79.mono (by omega))).grown hg14 (by omega) (fun g hg => by have := (HO9.out.lt g hg).1; omega)
  have HO14 : Hid (w14.ownsRow w.heap.size 5 1 v14 (seg p c).length ((seg p c).map bv)) := by
    show w14.ownsRow _ _ _ _ _ _
    rw [HQ.out, List.length_append, hl9, List.map_append]
    exact own_weaken hO14 (by omega)
  clear hO14 hg14
  go_wp2_with fail
  go_ret
  exact ⟨_, rfl, HO14.out, hb14⟩
theorem keep46 {wa w' : World} {g : Nat} {p : Pk} {B : Option Addr} {d : Nat} (h : Blk wa g 52 (pkc p B d)) (hb : Below wa.heap.size wa w') (hg : g < wa.heap.size) : w'.cell? ⟨g, 4, none⟩ = some (.int .u32 p.fl.src) ∧ w'.cell? ⟨g, 6, none⟩ = some (.int .u32 p.fl.dst) := by
  have h2 := blk13 (h.below hb hg)
  exact ⟨h2.2.2.2.2.1, h2.2.2.2.2.2.2.1⟩
theorem keepI {wa w' : World} {g : Nat} {p : Pk} {B : Option Addr} {d : Nat} (h : Blk wa g 52 (pkc p B d)) (hb : Below wa.heap.size wa w') (hg : g < wa.heap.size) : w'.cell? ⟨g, 1, none⟩ = some (.int .i64 p.id) := (blk13 (h.below hb hg)).2.1
theorem own_lit2 (W : World) (base : Nat) (e : TypeId) (g : Nat) (a b : Value) (hg : g = W.heap.size) (hb : base ≤ W.heap.size) : (W.alloc (.cells #[a, b] e)).ownsRow base e 1 (.slice (some ⟨g, 0, none⟩) 2 2) 2 [a, b] := by
  subst hg
  exact ⟨rfl, .inr ⟨W.heap.size, 2, #[a, b], rfl, hb, heap_alloc_new W _, Nat.le_refl _, (by unfold maxLen; omega), rfl, rfl⟩⟩
set_option maxRecDepth 100000 in
set_option maxHeartbeats 3200000 in
theorem rfront_any (p : Pk) (B : Option Addr) (d n c : Nat) (n' c' : Int) (w : World) (hg : GoodP p) (hu : U32s p) (hn : n ≤ 2000) (hc : c ≤ 65535) (en : n' = (n : Int)) (ec : c' = (c : Int)) :
    Calls Try.prog 41 #[pkv p B d, .int .i64 n', .int .i64 c'] w fun e w' => ∃ v, e = .returned v ∧ w'.ownsRow w.heap.size 5 1 v (front p n c).length ((front p n c).map bv) ∧ Below w.heap.size w w' := by
  subst en ec
  obtain ⟨i0, hi, hz0, hz1, hz2⟩ := info_parts info_u8
  have hb0 : Below w.heap.size w (w.alloc (.cells #[.int .i64 p.tos, .int .i64 p.id, .int .i64 p.ttl, .int .i64 p.fl.proto, .int .u32 p.fl.src, .int .i64 p.fl.sp, .int .u32 p.fl.dst, .int .i64 p.fl.dp, .int .u32 p.seq, .int .u32 p.ack, .int .i64 p.flags, .int .i64 p.win, .slice B p.data.length d] 52)) := (Below.refl _ w).alloc (Nat.le_refl _) _
  have hX : Blk (w.alloc (.cells #[.int .i64 p.tos, .int .i64 p.id, .int .i64 p.ttl, .int .i64 p.fl.proto, .int .u32 p.fl.src, .int .i64 p.fl.sp, .int .u32 p.fl.dst, .int .i64 p.fl.dp, .int .u32 p.seq, .int .u32 p.ack, .int .i64 p.flags, .int .i64 p.win, .slice B p.data.length d] 52)) w.heap.size 52 (pkc p B d) := Blk.new w _ _
  obtain ⟨⟨hpr, -, -⟩, hto, hid, htt, -, -, -, -⟩ := id hg
  obtain ⟨y, hy, HY⟩ : ∃ y : UInt8, p.tos % 256 = (y.toNat : Int) ∧ Hid (y = UInt8.ofNat p.tos.toNat) := ⟨UInt8.ofNat p.tos.toNat, by rw [UInt8.toNat_ofNat']; omega, rfl⟩
  obtain ⟨t, ht, HT⟩ : ∃ y : UInt8, p.ttl % 256 = (y.toNat : Int) ∧ Hid (y = UInt8.ofNat p.ttl.toNat) := ⟨UInt8.ofNat p.ttl.toNat, by rw [UInt8.toNat_ofNat']; omega, rfl⟩
  obtain ⟨r, hr, HR⟩ : ∃ y : UInt8, p.fl.proto % 256 = (y.toNat : Int) ∧ Hid (y = UInt8.ofNat p.fl.proto.toNat) := ⟨UInt8.ofNat p.fl.proto.toNat, by rw [UInt8.toNat_ofNat']; omega, rfl⟩
  have nid := Lib.hid (nn hid.1)
  have nsr := Lib.hid (nn hu.1.1)
  have nds := Lib.hid (nn hu.2.1.1)
  have lid : p.id.toNat ≤ 65535 := by omega
  have lsr : p.fl.src.toNat ≤ 4294967295 := by have := hu.1; omega
  have lds : p.fl.dst.toNat ≤ 4294967295 := by have := hu.2.1; omega
  have HS : Hid (front p n c = [69, y] ++ be 2 (20 + n) ++ be 2 p.id.toNat ++ be 2 16384 ++ [t, r] ++ be 2 c ++ be 4 p.fl.src.toNat ++ be 4 p.fl.dst.toNat) := by show front p n c = _; unfold front; rw [HY.out, HT.out, HR.out]
  clear hpr hto hid htt hg hu HY HT HR
  go_enter Try.func41, Try.ntmps41
  go_upto_region 1 with (fail)
  have hs0 : w.heap.size < (w.alloc (.cells #[.int .i64 p.tos, .int .i64 p.id, .int .i64 p.ttl, .int .i64 p.fl.proto, .int .u32 p.fl.src, .int .i64 p.fl.sp, .int .u32 p.fl.dst, .int .i64 p.fl.dp, .int .u32 p.seq, .int .u32 p.ack, .int .i64 p.flags, .int .i64 p.win, .slice B p.data.length d] 52)).heap.size := hX.lt
  generalize (w.alloc (.cells #[.int .i64 p.tos, .int .i64 p.id, .int .i64 p.ttl, .int .i64 p.fl.proto, .int .u32 p.fl.src, .int .i64 p.fl.sp, .int .u32 p.fl.dst, .int .i64 p.fl.dp, .int .u32 p.seq, .int .u32 p.ack, .int .i64 p.flags, .int .i64 p.win, .slice B p.data.length d] 52)) = wa at *
  obtain ⟨c0, c1, c2, c3, c4, c5, c6, c7, c8, c9, c10, c11, c12⟩ := blk13 hX
  go_upto_region 2 with (fail)
  have hO0 : (wa.alloc (.cells #[.int .u8 69, .int .u8 (y.toNat : Int)] 5)).ownsRow wa.heap.size 5 1 (.slice (some ⟨wa.heap.size, 0, none⟩) 2 2) ([69, y] : List UInt8).length (([69, y] : List UInt8).map bv) := own_lit2 wa wa.heap.size 5 wa.heap.size _ _ rfl (Nat.le_refl _)
  have hba : Below wa.heap.size wa (wa.alloc (.cells #[.int .u8 69, .int .u8 (y.toNat : Int)] 5)) := (Below.refl _ wa).alloc (Nat.le_refl _) _
  generalize wa.alloc (.cells #[.int .u8 69, .int .u8 (y.toNat : Int)] 5) = wb at *
  have hXb := hX.below hba hs0
  clear c0 c1 c2 c3 c4 c5 c6 c7 c8 c9 c10 c11 c12
  obtain ⟨c0, c1, c2, c3, c4, c5, c6, c7, c8, c9, c10, c11, c12⟩ := blk13 hXb
  have hcur : Below wa.heap.size wa wb.drew := Below.drew hba
  have hOb : Hid (wb.drew.ownsRow wa.heap.size 5 1 (.slice (some ⟨wa.heap.size, 0, none⟩) 2 2) ([69, y] : List UInt8).length (([69, y] : List UInt8).map bv)) := hO0
  have q20 : IntKind.i64.wrap (20 + (n : Int)) = 20 + (n : Int) := IntWalk.i64_in _ (by omega)
  clear hO0
  go_region_held3 (fun w' => w'.cell? ⟨w.heap.size, 1, none⟩ = some (.int .i64 p.id))
    (first | with_reducible exact c1 | with_reducible exact keepI hX hcur hs0)
    (first
      | (go_at_call 39; (with_reducible refine (rtwo_any wa.heap.size [69, y] _ (20 + n) (20 + (n : Int)) _ hOb.out hcur.size (by simp) (by omega) (by omega)).mono ?_); rintro e w6 ⟨v6, rfl, hO6, hb6⟩; have hO1 := Lib.hid hO6; clear hO6; replace hcur := hcur.trans hb6)
      | (go_at_call 39; (with_reducible refine (rtwo_any wa.heap.size _ v6 p.id.toNat p.id _ hO1.out hcur.size (by simp [be_len]) lid nid.out).mono ?_); rintro e w7 ⟨v7, rfl, hO7, hb7⟩; have hO2 := Lib.hid hO7; clear hO7; replace hcur := hcur.trans hb7)
      | (go_at_call 39; (with_reducible refine (rtwo_any wa.heap.size _ v7 16384 16384 _ hO2.out hcur.size (by simp [be_len]) (by omega) rfl).mono ?_); rintro e w8 ⟨v8, rfl, hO8, hb8⟩; have hO3 := Lib.hid hO8; clear hO8; replace hcur := hcur.trans hb8))
  have hX8 := hX.below hcur hs0
  have hs8 := hcur.size
  clear c0 c1 c2 c3 c4 c5 c6 c7 c8 c9 c10 c11 c12
  obtain ⟨c0, c1, c2, c3, c4, c5, c6, c7, c8, c9, c10, c11, c12⟩ := blk13 hX8
  have hl4 : ([69, y] ++ be 2 (20 + n) ++ be 2 p.id.toNat ++ be 2 16384).length = 8 := by simp [be_len]
  have hO3' := hO3.out
  rw [hl4] at hO3'
  have HS0 := HS.out
  rw [show [69, y] ++ be 2 (20 + n) ++ be 2 p.id.toNat ++ be 2 16384 ++ [t, r] ++ be 2 c ++ be 4 p.fl.src.toNat ++ be 4 p.fl.dst.toNat = ([69, y] ++ be 2 (20 + n) ++ be 2 p.id.toNat ++ be 2 16384) ++ [t, r] ++ be 2 c ++ be 4 p.fl.src.toNat ++ be 4 p.fl.dst.toNat from rfl] at HS0
  generalize [69, y] ++ be 2 (20 + n) ++ be 2 p.id.toNat ++ be 2 16384 = l4 at *
  have HO4 := Lib.hid hO3'
  clear HS
  have HS := Lib.hid HS0
  clear HS0 hO3' hO3 hO2 hO1 hOb hb6 hb7 hb8 hXb hba
  go_wp2_with (at_builtin; refine wl_app _ rfl (.tmp 20) (.tmp 28) 22 rfl wa.heap.size 5 i0 (.int .u8 0) 1 1 Try.underlying22 hi hz0 hz1 hz2 rfl (by omega) v8 8 (l4.map bv) rfl (HO4.out.alloc _) (some ⟨w8.heap.size, 0, none⟩) 2 2 [.int .u8 (t.toNat : Int), .int .u8 (r.toNat : Int)] rfl rfl (rc_two w8 _ _ _) (by simp [Value.oneCell']) (by unfold maxLen; omega) (by omega) (by simp; omega) ?_)
  intro v10 w10 hO10 hg10 _
  have hb10 : Below wa.heap.size wa w10 := (hcur.alloc hs8 _).grown hg10 (by simp; omega) (fun g hg => (HO4.out.lt g hg).1)
  have HO5 : Hid (w10.ownsRow wa.heap.size 5 1 v10 (l4 ++ [t, r]).length ((l4 ++ [t, r]).map bv)) := by
    show w10.ownsRow _ _ _ _ _ _
    rw [List.length_append, hl4, List.map_append]
    exact hO10
  have hs10 := hb10.size
  clear hO10 hg10 c0 c1 c2 c3 c4 c5 c6 c7 c8 c9 c10 c11 c12
  go_wp2_with fail
  (with_reducible refine (rtwo_any wa.heap.size _ v10 c _ w10 HO5.out hs10 (by rw [List.length_append, hl4]; simp) hc rfl).mono ?_)
  rintro e w11 ⟨v11, rfl, hO11, hb11⟩
  have HO6 := Lib.hid hO11
  have hb11' := hb10.trans hb11
  have hs11 := hb11'.size
  have hX11 := hX.below hb11' hs0
  clear hO11
  obtain ⟨c0, c1, c2, c3, c4, c5, c6, c7, c8, c9, c10, c11, c12⟩ := blk13 hX11
  go_upto_region 5 with (fail)
  have hcu2 : Below wa.heap.size wa w11.drew := Below.drew hb11'
  have hO2d : Hid (w11.drew.ownsRow wa.heap.size 5 1 v11 (l4 ++ [t, r] ++ be 2 c).length ((l4 ++ [t, r] ++ be 2 c).map bv)) := HO6.out
  go_region_held3 (fun w' => w'.cell? ⟨w.heap.size, 4, none⟩ = some (.int .u32 p.fl.src) ∧ w'.cell? ⟨w.heap.size, 6, none⟩ = some (.int .u32 p.fl.dst))
    (first | with_reducible exact ⟨c4, c6⟩ | with_reducible exact keep46 hX hcu2 hs0)
    (first
      | (go_at_call 38; (with_reducible refine (rfour_any wa.heap.size _ v11 p.fl.src.toNat p.fl.src _ hO2d.out hcu2.size (by simp only [List.length_append, hl4, be_len]; simp) lsr nsr.out).mono ?_); rintro e w12 ⟨v12, rfl, hO12, hb12⟩; have hO7 := Lib.hid hO12; clear hO12; replace hcu2 := hcu2.trans hb12)
      | (go_at_call 38; (with_reducible refine (rfour_any wa.heap.size _ v12 p.fl.dst.toNat p.fl.dst _ hO7.out hcu2.size (by simp only [List.length_append, hl4, be_len]; simp) lds nds.out).mono ?_); rintro e w13 ⟨v13, rfl, hO13, hb13⟩; have hO8 := Lib.hid hO13; clear hO13; replace hcu2 := hcu2.trans hb13))
  have hfin : Below w.heap.size w w13 := hb0.trans (hcu2.mono (by omega))
  have HF : Hid (w13.ownsRow w.heap.size 5 1 v13 (front p n c).length ((front p n c).map bv)) := by
    show w13.ownsRow _ _ _ _ _ _
    rw [HS.out]
    exact own_weaken hO8.out (by omega)
  clear hO8 hO7 hO2d HO6 HO5 c0 c1 c2 c3 c4 c5 c6 c7 c8 c9 c10 c11 c12
  go_wp2_with fail
  go_ret
  exact ⟨_, rfl, HF.out, hfin⟩
end Go.Proofs.Ytbhdjalpkecbeaa
