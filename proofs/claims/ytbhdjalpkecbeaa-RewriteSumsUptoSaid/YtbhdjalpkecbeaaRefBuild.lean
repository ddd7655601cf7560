/- The walk of the document's Build. -/
import Derived.Test.YtbhdjalpkecbeaaRefPktW
import Derived.Test.YtbhdjalpkecbeaaSegmentU
import Derived.Test.YtbhdjalpkecbeaaPBuild
namespace Go.Proofs.Ytbhdjalpkecbeaa
set_option linter.unusedVariables false
set_option linter.unusedSimpArgs false
open Go.RowKit

theorem rwith_any (p : Pk) (B : Option Addr) (d c : Nat) (c' : Int) (w : World) (hd : PkD w B d p) (hg : GoodP p) (hu : U32s p) (hc : c ≤ 65535) (ec : c' = (c : Int)) :
    Calls Try.prog 37 #[pkv p B d, .int .i64 c'] w fun e w' => ∃ v, e = .returned v ∧ w'.ownsRow w.heap.size 5 1 v (seg p c).length ((seg p c).map bv) ∧ Below w.heap.size w w' := by
  rcases hg.1.1 with h | h
  · exact rwith_tcp p B d c c' w hd hg hu hc ec h
  · exact rwith_udp p B d c c' w hd hg hu hc ec h
theorem rsum2_any (xs ys : List UInt8) (A : Option Addr) (c : Nat) (w : World) (hA : RP w A [xs, ys]) (hx : xs.length ≤ 1000000) (hy : ys.length ≤ 1000000) :
    Calls Try.prog 40 #[.slice A 2 c] w fun e w' => e = .returned (.int .u16 (cks (xs ++ ys) : Int)) ∧ Below w.heap.size w w' := by
  have h := rsum_any [xs, ys] A c w hA (by simp) (by simp; omega)
  have e1 : [xs, ys].flatten = xs ++ ys := by simp
  rw [e1] at h
  exact h
theorem rsum1_any (xs : List UInt8) (A : Option Addr) (c : Nat) (w : World) (hA : RP w A [xs]) (hx : xs.length ≤ 1000000) :
    Calls Try.prog 40 #[.slice A 1 c] w fun e w' => e = .returned (.int .u16 (cks xs : Int)) ∧ Below w.heap.size w w' := by
  have h := rsum_any [xs] A c w hA (by simp) (by simp; omega)
  have e1 : [xs].flatten = xs := by simp
  rw [e1] at h
  exact h
theorem keep13 {wa w' : World} {g base : Nat} {p : Pk} {B : Option Addr} {d : Nat} (h : Blk wa g 52 (pkc p B d)) (hb : Below base wa w') (hg : g < base) : w'.cell? ⟨g, 0, none⟩ = some (.int .i64 p.tos) ∧ w'.cell? ⟨g, 1, none⟩ = some (.int .i64 p.id) ∧ w'.cell? ⟨g, 2, none⟩ = some (.int .i64 p.ttl) ∧ w'.cell? ⟨g, 3, none⟩ = some (.int .i64 p.fl.proto) ∧ w'.cell? ⟨g, 4, none⟩ = some (.int .u32 p.fl.src) ∧ w'.cell? ⟨g, 5, none⟩ = some (.int .i64 p.fl.sp) ∧ w'.cell? ⟨g, 6, none⟩ = some (.int .u32 p.fl.dst) ∧ w'.cell? ⟨g, 7, none⟩ = some (.int .i64 p.fl.dp) ∧ w'.cell? ⟨g, 8, none⟩ = some (.int .u32 p.seq) ∧ w'.cell? ⟨g, 9, none⟩ = some (.int .u32 p.ack) ∧ w'.cell? ⟨g, 10, none⟩ = some (.int .i64 p.flags) ∧ w'.cell? ⟨g, 11, none⟩ = some (.int .i64 p.win) ∧ w'.cell? ⟨g, 12, none⟩ = some (.slice B p.data.length d) := blk13 (h.below hb hg)
theorem at_worldC {P : Program} {C : World → Prop} (W : World) (h : C W) : C W := h
set_option maxRecDepth 100000 in
set_option maxHeartbeats 1600000 in
theorem rbuild_bad (p : Pk) (B : Option Addr) (d : Nat) (w : World) (h : ¬ GoodP p) :
    Calls Try.prog 25 #[pkv p B d] w fun e w' => e = .returned (.tuple #[.slice none 0 0, .int .i64 9]) ∧ Below w.heap.size w w' := by
  have hb0 : Below w.heap.size w (w.alloc (.cells #[.int .i64 p.tos, .int .i64 p.id, .int .i64 p.ttl, .int .i64 p.fl.proto, .int .u32 p.fl.src, .int .i64 p.fl.sp, .int .u32 p.fl.dst, .int .i64 p.fl.dp, .int .u32 p.seq, .int .u32 p.ack, .int .i64 p.flags, .int .i64 p.win, .slice B p.data.length d] 52)) := (Below.refl _ w).alloc (Nat.le_refl _) _
  have hX : Blk (w.alloc (.cells #[.int .i64 p.tos, .int .i64 p.id, .int .i64 p.ttl, .int .i64 p.fl.proto, .int .u32 p.fl.src, .int .i64 p.fl.sp, .int .u32 p.fl.dst, .int .i64 p.fl.dp, .int .u32 p.seq, .int .u32 p.ack, .int .i64 p.flags, .int .i64 p.win, .slice B p.data.length d] 52)) w.heap.size 52 (pkc p B d) := Blk.new w _ _
  have HB := Lib.hid h
  clear h
  go_enter Try.func25, Try.ntmps25
  go_upto_region 1 with (fail)
  generalize (w.alloc (.cells #[.int .i64 p.tos, .int .i64 p.id, .int .i64 p.ttl, .int .i64 p.fl.proto, .int .u32 p.fl.src, .int .i64 p.fl.sp, .int .u32 p.fl.dst, .int .i64 p.fl.dp, .int .u32 p.seq, .int .u32 p.ack, .int .i64 p.flags, .int .i64 p.win, .slice B p.data.length d] 52)) = wa at *
  obtain ⟨c0, c1, c2, c3, c4, c5, c6, c7, c8, c9, c10, c11, c12⟩ := blk13 hX
  go_wp2_with fail
  (with_reducible refine (rgood_any p B d wa).mono ?_)
  rintro e w1 ⟨g, rfl, HG, hb1⟩
  have hg : g = false := by
    cases g
    · rfl
    · exact absurd (HG.out.1 rfl) HB.out
  subst hg
  have hbb := below_call hb0 hb1
  clear c0 c1 c2 c3 c4 c5 c6 c7 c8 c9 c10 c11 c12
  go_wp2_with fail
  go_ret2
  exact ⟨rfl, hbb⟩
set_option maxRecDepth 100000 in
set_option maxHeartbeats 6400000 in
theorem rbuild_good (p : Pk) (B : Option Addr) (d : Nat) (w : World) (hd : PkD w B d p) (hg : GoodP p) (hu : U32s p) :
    Calls Try.prog 25 #[pkv p B d] w fun e w' => ∃ v, e = .returned (.tuple #[v, .int .i64 0]) ∧ w'.ownsRow w.heap.size 5 1 v (build p).length ((build p).map bv) ∧ Below w.heap.size w w' := by
  obtain ⟨i0, hi, hz0, hz1, hz2⟩ := info_parts info_u8
  have hb0 : Below w.heap.size w (w.alloc (.cells #[.int .i64 p.tos, .int .i64 p.id, .int .i64 p.ttl, .int .i64 p.fl.proto, .int .u32 p.fl.src, .int .i64 p.fl.sp, .int .u32 p.fl.dst, .int .i64 p.fl.dp, .int .u32 p.seq, .int .u32 p.ack, .int .i64 p.flags, .int .i64 p.win, .slice B p.data.length d] 52)) := (Below.refl _ w).alloc (Nat.le_refl _) _
  have hX : Blk (w.alloc (.cells #[.int .i64 p.tos, .int .i64 p.id, .int .i64 p.ttl, .int .i64 p.fl.proto, .int .u32 p.fl.src, .int .i64 p.fl.sp, .int .u32 p.fl.dst, .int .i64 p.fl.dp, .int .u32 p.seq, .int .u32 p.ack, .int .i64 p.flags, .int .i64 p.win, .slice B p.data.length d] 52)) w.heap.size 52 (pkc p B d) := Blk.new w _ _
  have hda := hd.below hb0
  have HGP := Lib.hid hg
  have HUP := Lib.hid hu
  have hdl : p.data.length ≤ 1472 := by have := hg.2.2.2.2.2.2.2; split at this <;> omega
  have hpr : p.fl.proto = 6 ∨ p.fl.proto = 17 := hg.1.1
  have nsr := Lib.hid (nn hu.1.1)
  have nds := Lib.hid (nn hu.2.1.1)
  have lsr : p.fl.src.toNat ≤ 4294967295 := by have := hu.1; omega
  have lds : p.fl.dst.toNat ≤ 4294967295 := by have := hu.2.1; omega
  have npr : Hid (p.fl.proto = ((p.fl.proto.toNat : Nat) : Int)) := by show p.fl.proto = _; omega
  have lpr : p.fl.proto.toNat ≤ 255 := by omega
  have HPR := Lib.hid hpr
  obtain ⟨n, hn⟩ : ∃ n, n = (if p.fl.proto = 17 then 8 else 20) + p.data.length := ⟨_, rfl⟩
  have hsl : ∀ c, (seg p c).length = n := fun c => by rw [seg_len, hn]
  have hnl : n ≤ 1500 := by rw [hn]; split <;> omega
  have HSL := Lib.hid hsl
  clear hd hg hu hpr hn hsl
  go_enter Try.func25, Try.ntmps25
  go_upto_region 1 with (fail)
  have hs0 : w.heap.size < (w.alloc (.cells #[.int .i64 p.tos, .int .i64 p.id, .int .i64 p.ttl, .int .i64 p.fl.proto, .int .u32 p.fl.src, .int .i64 p.fl.sp, .int .u32 p.fl.dst, .int .i64 p.fl.dp, .int .u32 p.seq, .int .u32 p.ack, .int .i64 p.flags, .int .i64 p.win, .slice B p.data.length d] 52)).heap.size := hX.lt
  generalize (w.alloc (.cells #[.int .i64 p.tos, .int .i64 p.id, .int .i64 p.ttl, .int .i64 p.fl.proto, .int .u32 p.fl.src, .int .i64 p.fl.sp, .int .u32 p.fl.dst, .int .i64 p.fl.dp, .int .u32 p.seq, .int .u32 p.ack, .int .i64 p.flags, .int .i64 p.win, .slice B p.data.length d] 52)) = wa at *
  obtain ⟨c0, c1, c2, c3, c4, c5, c6, c7, c8, c9, c10, c11, c12⟩ := blk13 hX
  go_wp2_with fail
  (with_reducible refine (rgood_any p B d wa).mono ?_)
  rintro e w1 ⟨g, rfl, HG, hb1⟩
  obtain rfl : g = true := HG.out.2 HGP.out
  have hX1 := hX.kept hb1
  have hd1 := hda.below hb1
  have hw1 := below_call hb0 hb1
  have hs1 := hb1.size
  clear c0 c1 c2 c3 c4 c5 c6 c7 c8 c9 c10 c11 c12 hX hda hb0 HG hb1
  obtain ⟨c0, c1, c2, c3, c4, c5, c6, c7, c8, c9, c10, c11, c12⟩ := blk13 hX1
  go_wp2_with fail
  (with_reducible refine (rwith_any p B d 0 0 w1 hd1 HGP.out HUP.out (Nat.zero_le _) rfl).mono ?_)
  rintro e w2 ⟨v2, rfl, hO2, hb2⟩
  rw [HSL.out] at hO2
  obtain ⟨A4, k4, rfl, hk4, -, -⟩ := own_form hO2
  have HO2 := Lib.hid hO2
  have hX2 := hX1.kept hb2
  have hd2 := hd1.below hb2
  have hw2 := below_call hw1 hb2
  have hs2 := hb2.size
  clear c0 c1 c2 c3 c4 c5 c6 c7 c8 c9 c10 c11 c12 hX1 hd1 hw1 hb2 hO2
  obtain ⟨c0, c1, c2, c3, c4, c5, c6, c7, c8, c9, c10, c11, c12⟩ := blk13 hX2
  go_upto_region 5 with (fail)
  have hcur : Below w2.heap.size w2 w2.drew := Below.drew (Below.refl _ w2)
  have hO0 : w2.drew.ownsRow w2.heap.size 5 1 (.slice none 0 0) ([] : List UInt8).length (([] : List UInt8).map bv) := World.ownsRow_nil _ _ _ _
  have hsw2 : w.heap.size < w2.heap.size := by omega
  go_region_held3 (fun w' => w'.cell? ⟨w.heap.size, 4, none⟩ = some (.int .u32 p.fl.src) ∧ w'.cell? ⟨w.heap.size, 6, none⟩ = some (.int .u32 p.fl.dst))
    (first | with_reducible exact ⟨c4, c6⟩ | with_reducible exact keep46 hX2 hcur hsw2)
    (first
      | (go_at_call 38; (with_reducible refine (rfour_any w2.heap.size [] _ p.fl.src.toNat p.fl.src _ hO0 (Nat.le_refl _) (Nat.zero_le _) lsr nsr.out).mono ?_); rintro e w3 ⟨v3, rfl, hO3, hb3⟩; have HO3 := Lib.hid hO3; clear hO3; replace hcur := hcur.trans hb3)
      | (go_at_call 38; (with_reducible refine (rfour_any w2.heap.size _ v3 p.fl.dst.toNat p.fl.dst _ HO3.out hcur.size (by simp [be_len]) lds nds.out).mono ?_); rintro e w4 ⟨v4, rfl, hO4, hb4⟩; have HO4 := Lib.hid hO4; clear hO4; replace hcur := hcur.trans hb4))
  have hX4 := hX2.below hcur hsw2
  have hs4 := hcur.size
  clear c0 c1 c2 c3 c4 c5 c6 c7 c8 c9 c10 c11 c12 hO0 HO3 hb3 hb4
  obtain ⟨c0, c1, c2, c3, c4, c5, c6, c7, c8, c9, c10, c11, c12⟩ := blk13 hX4
  go_wp2_with fail
  (with_reducible refine (rtwo_any w2.heap.size _ v4 p.fl.proto.toNat p.fl.proto w4 HO4.out hs4 (by simp [be_len]) (by omega) npr.out).mono ?_)
  rintro e w5 ⟨v5, rfl, hO5, hb5⟩
  have HO5 := Lib.hid hO5
  have hb25 := hcur.trans hb5
  have hs5 := hb25.size
  clear hO5
  go_wp2_with fail
  (with_reducible refine (rtwo_any w2.heap.size _ v5 n n w5 HO5.out hs5 (by simp [be_len]) (by omega) rfl).mono ?_)
  rintro e w6 ⟨v6, rfl, hO6, hb6⟩
  have hb26 := hb25.trans hb6
  have hs6 := hb26.size
  have hah : [] ++ be 4 p.fl.src.toNat ++ be 4 p.fl.dst.toNat ++ be 2 p.fl.proto.toNat ++ be 2 n = ahead p.fl n := by
    unfold ahead
    rw [be2 p.fl.proto.toNat, show p.fl.proto.toNat / 256 = 0 by omega]
    rfl
  rw [hah] at hO6
  have hal : (ahead p.fl n).length = 12 := by unfold ahead; simp [be_len]
  rw [hal] at hO6
  obtain ⟨A6, k6, rfl, hk6, hR6, -⟩ := own_form hO6
  replace hR6 : RB w6 A6 (ahead p.fl n) := hR6
  have hR4 : RB w6 A4 (seg p 0) := RC.of_own (own_below HO2.out hb26)
  have hRP : RP (w6.alloc (.cells #[.slice A6 12 k6, .slice A4 n k4] 22)) (some ⟨w6.heap.size, 0, none⟩) [ahead p.fl n, seg p 0] := rp2_at w6 22 A6 A4 12 k6 n k4 _ _ hal (HSL.out 0) hk6 hk4 hR6 hR4 rfl
  have hX6 := hX2.below hb26 hsw2
  have hd6 := hd2.below hb26
  have hw6 : Below w.heap.size w w6 := below_call hw2 hb26
  clear c0 c1 c2 c3 c4 c5 c6 c7 c8 c9 c10 c11 c12 hO6 HO4 HO5 hR6 hR4 hb25 hb5 hb6 hcur hah HO2 hX4 hX2 hd2 hw2
  obtain ⟨c0, c1, c2, c3, c4, c5, c6, c7, c8, c9, c10, c11, c12⟩ := blk13 hX6
  go_wp2_with fail
  (with_reducible refine (rsum2_any (ahead p.fl n) (seg p 0) _ 2 _ hRP (by omega) (by rw [HSL.out]; omega)).mono ?_)
  rintro e w7 ⟨rfl, hb7⟩
  have hb67 : Below w6.heap.size w6 w7 := below_call (below_al (Below.refl _ w6) _) hb7
  have hX7 := hX6.kept hb67
  have hd7 := hd6.below hb67
  have hw7 := below_call hw6 hb67
  have hs7 := hb67.size
  have ho0 : cks (ahead p.fl n ++ seg p 0) = own0 p := by unfold own0; rw [HSL.out]
  rw [ho0]
  have hol : own0 p ≤ 65535 := cks_le _
  clear hRP c0 c1 c2 c3 c4 c5 c6 c7 c8 c9 c10 c11 c12 hX6 hd6 hw6 hb67 hb7 hal ho0
  obtain ⟨c0, c1, c2, c3, c4, c5, c6, c7, c8, c9, c10, c11, c12⟩ := blk13 hX7
  have hcs : ∃ oc, ownSum p = oc ∧ oc ≤ 65535 := ⟨_, rfl, own_le p⟩
  obtain ⟨oc, hoc, hocl⟩ := hcs
  have HOC := Lib.hid hoc
  clear hoc
  have hcase : Hid ((own0 p ≠ 0 ∧ oc = own0 p) ∨ (own0 p = 0 ∧ p.fl.proto = 17 ∧ oc = 65535) ∨ (own0 p = 0 ∧ p.fl.proto = 6 ∧ oc = 0)) := by
    show _ ∨ _
    rw [← HOC.out]
    unfold ownSum
    have := HPR.out
    by_cases h0 : own0 p = 0
    · rcases this with h6 | h17
      · exact .inr (.inr ⟨h0, h6, by rw [if_neg (by rw [h6]; omega)]; exact h0⟩)
      · exact .inr (.inl ⟨h0, h17, by rw [if_pos ⟨h0, h17⟩]⟩)
    · exact .inl ⟨h0, by rw [if_neg (fun h => h0 h.1)]⟩
  generalize hoz : own0 p = oz at *
  have HOZ := Lib.hid hoz
  clear hoz
  have qoc : IntKind.i64.wrap (oc : Int) = (oc : Int) := IntWalk.i64_in _ (by omega)
  rcases hcase.out with ⟨h0, rfl⟩ | ⟨rfl, h17, rfl⟩ | ⟨rfl, h6, rfl⟩
  · have hz : ((oc : Int) == 0) = false := by simp; omega
    clear h0
    go_upto_region 10 with (fail)
    go_wp2_with fail
    (with_reducible refine (rwith_any p B d oc (oc : Int) w7 hd7 HGP.out HUP.out (by omega) rfl).mono ?_)
    rintro e w8 ⟨v8, rfl, hO8, hb8⟩
    rw [HSL.out] at hO8
    obtain ⟨A8, k8, rfl, hk8, hR8, -⟩ := own_form hO8
    replace hR8 : RB w8 A8 (seg p oc) := hR8
    have hX8 := hX7.kept hb8
    have hw8 := below_call hw7 hb8
    have hs8 : w.heap.size < w8.heap.size := by have := hb8.size; omega
    clear c0 c1 c2 c3 c4 c5 c6 c7 c8 c9 c10 c11 c12 hX7 hd7 hw7 hb8 hO8
    obtain ⟨c0, c1, c2, c3, c4, c5, c6, c7, c8, c9, c10, c11, c12⟩ := blk13 hX8
    go_upto_region 11 with (fail)
    have hcur : Below w8.heap.size w8 w8.drew := Below.drew (Below.refl _ w8)
    obtain ⟨f0, hf0⟩ : ∃ f0, front p n 0 = f0 := ⟨_, rfl⟩
    obtain ⟨cf, hcf⟩ : ∃ cf, cks f0 = cf := ⟨_, rfl⟩
    have HF0 := Lib.hid hf0
    have HCF := Lib.hid hcf
    have hcfl : cf ≤ 65535 := by rw [← hcf]; exact cks_le _
    have lf0 : f0.length = 20 := by rw [← hf0]; exact front_len _ _ _
    have qcf : IntKind.i64.wrap (cf : Int) = (cf : Int) := IntWalk.i64_in _ (by omega)
    clear hf0 hcf
    go_region_held3 (fun w' => w'.cell? ⟨w.heap.size, 0, none⟩ = some (.int .i64 p.tos) ∧ w'.cell? ⟨w.heap.size, 1, none⟩ = some (.int .i64 p.id) ∧ w'.cell? ⟨w.heap.size, 2, none⟩ = some (.int .i64 p.ttl) ∧ w'.cell? ⟨w.heap.size, 3, none⟩ = some (.int .i64 p.fl.proto) ∧ w'.cell? ⟨w.heap.size, 4, none⟩ = some (.int .u32 p.fl.src) ∧ w'.cell? ⟨w.heap.size, 5, none⟩ = some (.int .i64 p.fl.sp) ∧ w'.cell? ⟨w.heap.size, 6, none⟩ = some (.int .u32 p.fl.dst) ∧ w'.cell? ⟨w.heap.size, 7, none⟩ = some (.int .i64 p.fl.dp) ∧ w'.cell? ⟨w.heap.size, 8, none⟩ = some (.int .u32 p.seq) ∧ w'.cell? ⟨w.heap.size, 9, none⟩ = some (.int .u32 p.ack) ∧ w'.cell? ⟨w.heap.size, 10, none⟩ = some (.int .i64 p.flags) ∧ w'.cell? ⟨w.heap.size, 11, none⟩ = some (.int .i64 p.win) ∧ w'.cell? ⟨w.heap.size, 12, none⟩ = some (.slice B p.data.length d))
      (first | with_reducible exact ⟨c0, c1, c2, c3, c4, c5, c6, c7, c8, c9, c10, c11, c12⟩ | with_reducible exact keep13 hX8 hcur hs8 | with_reducible exact keep13 hX8 (below_al hcur _) hs8 | with_reducible exact keep13 hX8 hb13 hs8)
      (first
        | (go_at_call 41; (with_reducible refine (rfront_any p B d n 0 (n : Int) 0 _ HGP.out HUP.out (by omega) (Nat.zero_le _) rfl rfl).mono ?_); rintro e w9 ⟨v9, rfl, hO9, hb9⟩; rw [HF0.out, lf0] at hO9; obtain ⟨A9, k9, rfl, hk9, hR9, -⟩ := own_form hO9; replace hR9 : RB w9 A9 f0 := hR9; replace hcur := below_call hcur hb9; have hRP := rp1_at w9 22 A9 20 k9 f0 lf0 hk9 hR9 rfl; clear hO9)
        | (go_at_call 40; (with_reducible refine (rsum1_any f0 _ 1 _ hRP (by omega)).mono ?_); rintro e w11 ⟨rfl, hb11⟩; rw [HCF.out]; replace hcur := below_call (below_al hcur _) hb11)
        | (go_at_call 41; (with_reducible refine (rfront_any p B d n cf (n : Int) (cf : Int) _ HGP.out HUP.out (by omega) hcfl rfl rfl).mono ?_); rintro e w12 ⟨v12, rfl, hO12, hb12⟩; rw [front_len] at hO12; have HO12 := Lib.hid (own_weaken hO12 hcur.size); replace hcur := below_call hcur hb12; clear hO12)
        | ((with_reducible refine at_world w12 ?_); refine step_app _ rfl (.tmp 55) (.tmp 56) 22 rfl w8.heap.size 5 i0 (.int .u8 0) 1 1 Try.underlying22 hi hz0 hz1 hz2 rfl (by omega) v12 20 ((front p n cf).map bv) rfl HO12.out A8 n k8 ((seg p oc).map bv) rfl (by rw [List.length_map, HSL.out]; omega) (RB.below hR8 hcur) (one_bv _) (by unfold maxLen; omega) (by omega) hcur.size ?_; intro v13 w13 hO13 hg13 _; have hb13 : Below w8.heap.size w8 w13 := hcur.grown hg13 hcur.size (fun b e => (HO12.out.lt b e).1); have HO13 := Lib.hid hO13; clear hO13))
    have hfin : Below w.heap.size w w13 := below_call hw8 hb13
    have HFIN : Hid (w13.ownsRow w.heap.size 5 1 v13 (build p).length ((build p).map bv)) := by
      show w13.ownsRow _ _ _ _ _ _
      have e : build p = front p n cf ++ seg p oc := by
        show frontS p (seg p (ownSum p)).length ++ seg p (ownSum p) = _
        rw [HSL.out, HOC.out]
        show front p n (cks (front p n 0)) ++ _ = _
        rw [HF0.out, HCF.out]
      rw [e, List.length_append, front_len, HSL.out, List.map_append]
      exact own_weaken HO13.out (by omega)
    clear HO13 HO12 hRP
    go_wp2_with fail
    go_ret2
    exact ⟨_, rfl, HFIN.out, hfin⟩
  · rw [h17] at c3
    go_upto_region 10 with (fail)
    rw [← h17] at c3
    clear h17
    go_wp2_with fail
    (with_reducible refine (rwith_any p B d 65535 65535 w7 hd7 HGP.out HUP.out (by omega) rfl).mono ?_)
    rintro e w8 ⟨v8, rfl, hO8, hb8⟩
    rw [HSL.out] at hO8
    obtain ⟨A8, k8, rfl, hk8, hR8, -⟩ := own_form hO8
    replace hR8 : RB w8 A8 (seg p 65535) := hR8
    have hX8 := hX7.kept hb8
    have hw8 := below_call hw7 hb8
    have hs8 : w.heap.size < w8.heap.size := by have := hb8.size; omega
    clear c0 c1 c2 c3 c4 c5 c6 c7 c8 c9 c10 c11 c12 hX7 hd7 hw7 hb8 hO8
    obtain ⟨c0, c1, c2, c3, c4, c5, c6, c7, c8, c9, c10, c11, c12⟩ := blk13 hX8
    go_upto_region 11 with (fail)
    have hcur : Below w8.heap.size w8 w8.drew := Below.drew (Below.refl _ w8)
    obtain ⟨f0, hf0⟩ : ∃ f0, front p n 0 = f0 := ⟨_, rfl⟩
    obtain ⟨cf, hcf⟩ : ∃ cf, cks f0 = cf := ⟨_, rfl⟩
    have HF0 := Lib.hid hf0
    have HCF := Lib.hid hcf
    have hcfl : cf ≤ 65535 := by rw [← hcf]; exact cks_le _
    have lf0 : f0.length = 20 := by rw [← hf0]; exact front_len _ _ _
    have qcf : IntKind.i64.wrap (cf : Int) = (cf : Int) := IntWalk.i64_in _ (by omega)
    clear hf0 hcf
    go_region_held3 (fun w' => w'.cell? ⟨w.heap.size, 0, none⟩ = some (.int .i64 p.tos) ∧ w'.cell? ⟨w.heap.size, 1, none⟩ = some (.int .i64 p.id) ∧ w'.cell? ⟨w.heap.size, 2, none⟩ = some (.int .i64 p.ttl) ∧ w'.cell? ⟨w.heap.size, 3, none⟩ = some (.int .i64 p.fl.proto) ∧ w'.cell? ⟨w.heap.size, 4, none⟩ = some (.int .u32 p.fl.src) ∧ w'.cell? ⟨w.heap.size, 5, none⟩ = some (.int .i64 p.fl.sp) ∧ w'.cell? ⟨w.heap.size, 6, none⟩ = some (.int .u32 p.fl.dst) ∧ w'.cell? ⟨w.heap.size, 7, none⟩ = some (.int .i64 p.fl.dp) ∧ w'.cell? ⟨w.heap.size, 8, none⟩ = some (.int .u32 p.seq) ∧ w'.cell? ⟨w.heap.size, 9, none⟩ = some (.int .u32 p.ack) ∧ w'.cell? ⟨w.heap.size, 10, none⟩ = some (.int .i64 p.flags) ∧ w'.cell? ⟨w.heap.size, 11, none⟩ = some (.int .i64 p.win) ∧ w'.cell? ⟨w.heap.size, 12, none⟩ = some (.slice B p.data.length d))
      (first | with_reducible exact ⟨c0, c1, c2, c3, c4, c5, c6, c7, c8, c9, c10, c11, c12⟩ | with_reducible exact keep13 hX8 hcur hs8 | with_reducible exact keep13 hX8 (below_al hcur _) hs8 | with_reducible exact keep13 hX8 hb13 hs8)
      (first
        | (go_at_call 41; (with_reducible refine (rfront_any p B d n 0 (n : Int) 0 _ HGP.out HUP.out (by omega) (Nat.zero_le _) rfl rfl).mono ?_); rintro e w9 ⟨v9, rfl, hO9, hb9⟩; rw [HF0.out, lf0] at hO9; obtain ⟨A9, k9, rfl, hk9, hR9, -⟩ := own_form hO9; replace hR9 : RB w9 A9 f0 := hR9; replace hcur := below_call hcur hb9; have hRP := rp1_at w9 22 A9 20 k9 f0 lf0 hk9 hR9 rfl; clear hO9)
        | (go_at_call 40; (with_reducible refine (rsum1_any f0 _ 1 _ hRP (by omega)).mono ?_); rintro e w11 ⟨rfl, hb11⟩; rw [HCF.out]; replace hcur := below_call (below_al hcur _) hb11)
        | (go_at_call 41; (with_reducible refine (rfront_any p B d n cf (n : Int) (cf : Int) _ HGP.out HUP.out (by omega) hcfl rfl rfl).mono ?_); rintro e w12 ⟨v12, rfl, hO12, hb12⟩; rw [front_len] at hO12; have HO12 := Lib.hid (own_weaken hO12 hcur.size); replace hcur := below_call hcur hb12; clear hO12)
        | ((with_reducible refine at_world w12 ?_); refine step_app _ rfl (.tmp 55) (.tmp 56) 22 rfl w8.heap.size 5 i0 (.int .u8 0) 1 1 Try.underlying22 hi hz0 hz1 hz2 rfl (by omega) v12 20 ((front p n cf).map bv) rfl HO12.out A8 n k8 ((seg p 65535).map bv) rfl (by rw [List.length_map, HSL.out]; omega) (RB.below hR8 hcur) (one_bv _) (by unfold maxLen; omega) (by omega) hcur.size ?_; intro v13 w13 hO13 hg13 _; have hb13 : Below w8.heap.size w8 w13 := hcur.grown hg13 hcur.size (fun b e => (HO12.out.lt b e).1); have HO13 := Lib.hid hO13; clear hO13))
    have hfin : Below w.heap.size w w13 := below_call hw8 hb13
    have HFIN : Hid (w13.ownsRow w.heap.size 5 1 v13 (build p).length ((build p).map bv)) := by
      show w13.ownsRow _ _ _ _ _ _
      have e : build p = front p n cf ++ seg p 65535 := by
        show frontS p (seg p (ownSum p)).length ++ seg p (ownSum p) = _
        rw [HSL.out, HOC.out]
        show front p n (cks (front p n 0)) ++ _ = _
        rw [HF0.out, HCF.out]
      rw [e, List.length_append, front_len, HSL.out, List.map_append]
      exact own_weaken HO13.out (by omega)
    clear HO13 HO12 hRP
    go_wp2_with fail
    go_ret2
    exact ⟨_, rfl, HFIN.out, hfin⟩
  · rw [h6] at c3
    go_upto_region 10 with (fail)
    rw [← h6] at c3
    clear h6
    go_wp2_with fail
    (with_reducible refine (rwith_any p B d 0 0 w7 hd7 HGP.out HUP.out (by omega) rfl).mono ?_)
    rintro e w8 ⟨v8, rfl, hO8, hb8⟩
    rw [HSL.out] at hO8
    obtain ⟨A8, k8, rfl, hk8, hR8, -⟩ := own_form hO8
    replace hR8 : RB w8 A8 (seg p 0) := hR8
    have hX8 := hX7.kept hb8
    have hw8 := below_call hw7 hb8
    have hs8 : w.heap.size < w8.heap.size := by have := hb8.size; omega
    clear c0 c1 c2 c3 c4 c5 c6 c7 c8 c9 c10 c11 c12 hX7 hd7 hw7 hb8 hO8
    obtain ⟨c0, c1, c2, c3, c4, c5, c6, c7, c8, c9, c10, c11, c12⟩ := blk13 hX8
    go_upto_region 11 with (fail)
    have hcur : Below w8.heap.size w8 w8.drew := Below.drew (Below.refl _ w8)
    obtain ⟨f0, hf0⟩ : ∃ f0, front p n 0 = f0 := ⟨_, rfl⟩
    obtain ⟨cf, hcf⟩ : ∃ cf, cks f0 = cf := ⟨_, rfl⟩
    have HF0 := Lib.hid hf0
    have HCF := Lib.hid hcf
    have hcfl : cf ≤ 65535 := by rw [← hcf]; exact cks_le _
    have lf0 : f0.length = 20 := by rw [← hf0]; exact front_len _ _ _
    have qcf : IntKind.i64.wrap (cf : Int) = (cf : Int) := IntWalk.i64_in _ (by omega)
    clear hf0 hcf
    go_region_held3 (fun w' => w'.cell? ⟨w.heap.size, 0, none⟩ = some (.int .i64 p.tos) ∧ w'.cell? ⟨w.heap.size, 1, none⟩ = some (.int .i64 p.id) ∧ w'.cell? ⟨w.heap.size, 2, none⟩ = some (.int .i64 p.ttl) ∧ w'.cell? ⟨w.heap.size, 3, none⟩ = some (.int .i64 p.fl.proto) ∧ w'.cell? ⟨w.heap.size, 4, none⟩ = some (.int .u32 p.fl.src) ∧ w'.cell? ⟨w.heap.size, 5, none⟩ = some (.int .i64 p.fl.sp) ∧ w'.cell? ⟨w.heap.size, 6, none⟩ = some (.int .u32 p.fl.dst) ∧ w'.cell? ⟨w.heap.size, 7, none⟩ = some (.int .i64 p.fl.dp) ∧ w'.cell? ⟨w.heap.size, 8, none⟩ = some (.int .u32 p.seq) ∧ w'.cell? ⟨w.heap.size, 9, none⟩ = some (.int .u32 p.ack) ∧ w'.cell? ⟨w.heap.size, 10, none⟩ = some (.int .i64 p.flags) ∧ w'.cell? ⟨w.heap.size, 11, none⟩ = some (.int .i64 p.win) ∧ w'.cell? ⟨w.heap.size, 12, none⟩ = some (.slice B p.data.length d))
      (first | with_reducible exact ⟨c0, c1, c2, c3, c4, c5, c6, c7, c8, c9, c10, c11, c12⟩ | with_reducible exact keep13 hX8 hcur hs8 | with_reducible exact keep13 hX8 (below_al hcur _) hs8 | with_reducible exact keep13 hX8 hb13 hs8)
      (first
        | (go_at_call 41; (with_reducible refine (rfront_any p B d n 0 (n : Int) 0 _ HGP.out HUP.out (by omega) (Nat.zero_le _) rfl rfl).mono ?_); rintro e w9 ⟨v9, rfl, hO9, hb9⟩; rw [HF0.out, lf0] at hO9; obtain ⟨A9, k9, rfl, hk9, hR9, -⟩ := own_form hO9; replace hR9 : RB w9 A9 f0 := hR9; replace hcur := below_call hcur hb9; have hRP := rp1_at w9 22 A9 20 k9 f0 lf0 hk9 hR9 rfl; clear hO9)
        | (go_at_call 40; (with_reducible refine (rsum1_any f0 _ 1 _ hRP (by omega)).mono ?_); rintro e w11 ⟨rfl, hb11⟩; rw [HCF.out]; replace hcur := below_call (below_al hcur _) hb11)
        | (go_at_call 41; (with_reducible refine (rfront_any p B d n cf (n : Int) (cf : Int) _ HGP.out HUP.out (by omega) hcfl rfl rfl).mono ?_); rintro e w12 ⟨v12, rfl, hO12, hb12⟩; rw [front_len] at hO12; have HO12 := Lib.hid (own_weaken hO12 hcur.size); replace hcur := below_call hcur hb12; clear hO12)
        | ((with_reducible refine at_world w12 ?_); refine step_app _ rfl (.tmp 55) (.tmp 56) 22 rfl w8.heap.size 5 i0 (.int .u8 0) 1 1 Try.underlying22 hi hz0 hz1 hz2 rfl (by omega) v12 20 ((front p n cf).map bv) rfl HO12.out A8 n k8 ((seg p 0).map bv) rfl (by rw [List.length_map, HSL.out]; omega) (RB.below hR8 hcur) (one_bv _) (by unfold maxLen; omega) (by omega) hcur.size ?_; intro v13 w13 hO13 hg13 _; have hb13 : Below w8.heap.size w8 w13 := hcur.grown hg13 hcur.size (fun b e => (HO12.out.lt b e).1); have HO13 := Lib.hid hO13; clear hO13))
    have hfin : Below w.heap.size w w13 := below_call hw8 hb13
    have HFIN : Hid (w13.ownsRow w.heap.size 5 1 v13 (build p).length ((build p).map bv)) := by
      show w13.ownsRow _ _ _ _ _ _
      have e : build p = front p n cf ++ seg p 0 := by
        show frontS p (seg p (ownSum p)).length ++ seg p (ownSum p) = _
        rw [HSL.out, HOC.out]
        show front p n (cks (front p n 0)) ++ _ = _
        rw [HF0.out, HCF.out]
      rw [e, List.length_append, front_len, HSL.out, List.map_append]
      exact own_weaken HO13.out (by omega)
    clear HO13 HO12 hRP
    go_wp2_with fail
    go_ret2
    exact ⟨_, rfl, HFIN.out, hfin⟩
end Go.Proofs.Ytbhdjalpkecbeaa
