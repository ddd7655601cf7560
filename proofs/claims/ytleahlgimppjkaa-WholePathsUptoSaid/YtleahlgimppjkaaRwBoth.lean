/- The walk of rewrite.Both. -/
import Derived.Test.YtleahlgimppjkaaRwSet
namespace Go.Proofs.Ytleahlgimppjkaa
set_option linter.unusedVariables false
set_option linter.unusedSimpArgs false
open Go.RowKit

def setFl (p : Pk) (f : Fl) : Pk := { p with fl := f }
theorem setFl_eq (p : Pk) (f : Fl) (h : f.proto = p.fl.proto) : setDst (setSrc p f.src f.sp) f.dst f.dp = setFl p f := by
  obtain ⟨tos, id, ttl, ⟨proto, src, sp, dst, dp⟩, sq, ak, flags, win, data⟩ := p
  obtain ⟨fp, fs, fsp, fd, fdp⟩ := f
  simp only at h
  subst h
  rfl
theorem setFl_good {p : Pk} (hg : GoodP p) (hu : U32s p) {f : Fl} (hf : GoodF f) (hs : 0 ≤ f.src ∧ f.src ≤ 4294967295) (hd : 0 ≤ f.dst ∧ f.dst ≤ 4294967295) (h : f.proto = p.fl.proto) : GoodP (setFl p f) ∧ U32s (setFl p f) := by
  obtain ⟨h1, h2, h3, h4, h5, h6, h7, h8⟩ := hg
  obtain ⟨u1, u2, u3⟩ := hu
  refine ⟨⟨hf, h2, h3, h4, h5, h6, ?_, ?_⟩, hs, hd, u3⟩
  · intro he; exact h7 (by rw [← h]; exact he)
  · show p.data.length ≤ (if f.proto = 17 then 1472 else 1460)
    rw [h]; exact h8
set_option maxHeartbeats 1600000 in
theorem both_no (b : List UInt8) (f : Fl) (A : Option Addr) (n c : Nat) (w : World) (hn : b.length = n) (hA : RB w A b) (hc : n ≤ c) (h : ∀ p, ¬ IsPk b p) :
    Calls Try.prog 13 #[.slice A n c, flv f] w fun e w' => e = .returned (.tuple #[.slice none 0 0, er 2]) ∧ Below w.heap.size w w' := by
  have hb0 : Below w.heap.size w (w.alloc (.cells #[.int .i64 f.proto, .int .u32 f.src, .int .i64 f.sp, .int .u32 f.dst, .int .i64 f.dp] 25)) := (Below.refl _ w).alloc (Nat.le_refl _) _
  have hF : Blk (w.alloc (.cells #[.int .i64 f.proto, .int .u32 f.src, .int .i64 f.sp, .int .u32 f.dst, .int .i64 f.dp] 25)) w.heap.size 25 (flc f) := Blk.new w _ _
  go_enter Try.func13, Try.ntmps13
  go_wp2_with fail
  generalize (w.alloc (.cells #[.int .i64 f.proto, .int .u32 f.src, .int .i64 f.sp, .int .u32 f.dst, .int .i64 f.dp] 25)) = wa at *
  have hA1 := hA.below hb0
  have hfl := hF.lt
  (with_reducible refine (opened_no b A n c wa hn hA1 hc h).mono ?_)
  rintro e w1 ⟨rfl, hb1⟩
  clear h
  obtain ⟨w2, hst, hC2⟩ : ∃ w2, (storeCells ⟨w1.heap.size, 0, none⟩ (#[.slice none 0 0, .int .i64 0] : Array Value).toList).run Try.prog (w1.alloc (.cells #[.slice none 0 0, .int .i64 0] 65)) = .ok () w2 ∧ Below wa.heap.size wa w2 := ⟨_, store2 #[.slice none 0 0, .int .i64 0] (Blk.new w1 65 [.slice none 0 0, .int .i64 0]) rfl rfl (by simp [Value.oneCell']), below_row (below_al hb1 _) hb1.size⟩
  obtain ⟨cs, hcs⟩ : ∃ cs : Array Value, #[.slice none 0 0, .int .i64 0] = cs := ⟨_, rfl⟩
  have hsz : cs.size = 2 := by rw [← hcs]; rfl
  rw [hcs] at hst
  go_upto_region 2 with (fail)
  clear hst hcs hsz
  have hw2 := below_call hb0 hC2
  go_wp2_with fail
  go_ret2
  exact ⟨rfl, hw2⟩
set_option maxRecDepth 100000 in
set_option maxHeartbeats 3200000 in
theorem both_bad (b : List UInt8) (p : Pk) (f : Fl) (A : Option Addr) (n c : Nat) (w : World) (hn : b.length = n) (hA : RB w A b) (hc : n ≤ c) (h : IsPk b p) (hbad : ¬ (GoodF f ∧ f.proto = p.fl.proto)) :
    Calls Try.prog 13 #[.slice A n c, flv f] w fun e w' => e = .returned (.tuple #[.slice none 0 0, er 9]) ∧ Below w.heap.size w w' := by
  have hb0 : Below w.heap.size w (w.alloc (.cells #[.int .i64 f.proto, .int .u32 f.src, .int .i64 f.sp, .int .u32 f.dst, .int .i64 f.dp] 25)) := (Below.refl _ w).alloc (Nat.le_refl _) _
  have hF : Blk (w.alloc (.cells #[.int .i64 f.proto, .int .u32 f.src, .int .i64 f.sp, .int .u32 f.dst, .int .i64 f.dp] 25)) w.heap.size 25 (flc f) := Blk.new w _ _
  go_enter Try.func13, Try.ntmps13
  go_wp2_with fail
  generalize (w.alloc (.cells #[.int .i64 f.proto, .int .u32 f.src, .int .i64 f.sp, .int .u32 f.dst, .int .i64 f.dp] 25)) = wa at *
  have hA1 := hA.below hb0
  have hfl := hF.lt
  (with_reducible refine (opened_yes b p A n c wa hn hA1 hc h).mono ?_)
  rintro e w1 ⟨g, k, rfl, HO, hb1⟩
  clear h
  generalize p.fl.proto = pr at *
  obtain ⟨cs, hcs⟩ : ∃ cs : Array Value, #[.slice (some ⟨g, 0, none⟩) n k, .int .i64 pr] = cs := ⟨_, rfl⟩
  have hsz : cs.size = 2 := by rw [← hcs]; rfl
  have hst : (storeCells ⟨w1.heap.size, 0, none⟩ cs.toList).run Try.prog (w1.alloc (.cells #[.slice none 0 0, .int .i64 0] 65)) = .ok () ((w1.alloc (.cells #[.slice none 0 0, .int .i64 0] 65)).setRow w1.heap.size cs) := store2 cs (Blk.new w1 65 [.slice none 0 0, .int .i64 0]) rfl (by rw [← hcs]; rfl) (by rw [← hcs]; simp [Value.oneCell'])
  have hNN : Below w1.heap.size w1 ((w1.alloc (.cells #[.slice none 0 0, .int .i64 0] 65)).setRow w1.heap.size cs) := below_row (below_al (Below.refl _ w1) _) (Nat.le_refl _)
  have hPB : Blk ((w1.alloc (.cells #[.slice none 0 0, .int .i64 0] 65)).setRow w1.heap.size cs) w1.heap.size 65 [.slice (some ⟨g, 0, none⟩) n k, .int .i64 pr] := by rw [← hcs]; exact (Blk.new w1 65 [.slice none 0 0, .int .i64 0]).row _
  have hC2 := below_call hb1 hNN
  obtain ⟨g2, hg2⟩ : ∃ g2, w1.heap.size = g2 := ⟨_, rfl⟩
  rw [hg2] at hst hPB
  obtain ⟨w2, hw2⟩ : ∃ w2, (w1.alloc (.cells #[.slice none 0 0, .int .i64 0] 65)).setRow w1.heap.size cs = w2 := ⟨_, rfl⟩
  rw [hw2] at hNN hC2
  rw [hg2] at hw2
  rw [hw2] at hst hPB
  go_upto_region 2 with (fail)
  clear hst hcs hsz hw2
  have hF2 := hF.kept hC2
  have hw2 := below_call hb0 hC2
  obtain ⟨a0, a1, a2, a3, a4⟩ := blk5 hF2
  obtain ⟨b0, b1_⟩ := blk2v hPB
  by_cases hgf : GoodF f
  · have hne : f.proto ≠ pr := fun h => hbad ⟨hgf, h⟩
    have hnb : (f.proto != pr) = true := by simp [hne]
    clear hne hbad
    go_wp2_with fail
    (with_reducible refine (acheck_good f w2 hgf).mono ?_)
    rintro e w3 ⟨rfl, hb3⟩
    have hF3 := hF2.kept hb3
    have hP3 := hPB.kept hb3
    have hw3 := below_call hw2 hb3
    clear hgf a0 a1 a2 a3 a4 b0 b1_
    obtain ⟨a0, a1, a2, a3, a4⟩ := blk5 hF3
    obtain ⟨b0, b1_⟩ := blk2v hP3
    go_wp2_with fail
    go_ret2
    exact ⟨rfl, hw3⟩
  · clear hbad
    go_wp2_with fail
    (with_reducible refine (acheck_bad f w2 hgf).mono ?_)
    rintro e w3 ⟨rfl, hb3⟩
    have hw3 := below_call hw2 hb3
    clear hgf
    go_wp2_with fail
    go_ret2
    exact ⟨rfl, hw3⟩
set_option maxRecDepth 100000 in
set_option maxHeartbeats 3200000 in
theorem both_good (b : List UInt8) (p : Pk) (f : Fl) (A : Option Addr) (n c : Nat) (w : World) (hn : b.length = n) (hA : RB w A b) (hc : n ≤ c) (h : IsPk b p) (hgf : GoodF f) (hpr : f.proto = p.fl.proto) (hs : 0 ≤ f.src ∧ f.src ≤ 4294967295) (hd : 0 ≤ f.dst ∧ f.dst ≤ 4294967295) :
    Calls Try.prog 13 #[.slice A n c, flv f] w fun e w' => ∃ X k, e = .returned (.tuple #[.slice X n k, .nilIface]) ∧ n ≤ k ∧ RB w' X (build (setFl p f)) ∧ Hid (w'.ownsRow w.heap.size 5 1 (.slice X n k) n ((build (setFl p f)).map bv)) ∧ Below w.heap.size w w' := by
  have hsh := isPk_shape h
  have hn28 : 28 ≤ n := by have := hsh.1; omega
  have hn15 : n ≤ 1500 := by have := hsh.2.1; omega
  have hown : ow p.fl.proto + 1 < n := by
    have h9 := hsh.2.2.1
    have e9 : p.fl.proto = (b1 b 9 : Int) := by rw [isPk_opn h]; exact (opn_fl b).1
    unfold ow
    split <;> omega
  have HN := Lib.hid hn
  obtain ⟨hgp, hup, hbp⟩ := id h
  obtain ⟨sp, hsp⟩ := Int.eq_ofNat_of_zero_le hgf.2.1.1
  obtain ⟨dp, hdp⟩ := Int.eq_ofNat_of_zero_le hgf.2.2.1
  obtain ⟨sr, hsr⟩ := Int.eq_ofNat_of_zero_le hs.1
  obtain ⟨ds, hds⟩ := Int.eq_ofNat_of_zero_le hd.1
  have hsp2 : sp ≤ 65535 := by have := hgf.2.1.2; omega
  have hdp2 : dp ≤ 65535 := by have := hgf.2.2.2; omega
  have hsr2 : sr ≤ 4294967295 := by have := hs.2; omega
  have hds2 : ds ≤ 4294967295 := by have := hd.2; omega
  have hg1 := setSrc_good hgp hup sr sp hsr2 hsp2
  have H1 : Hid (sideN p.fl.proto b sr 12 sp 20 = build (setSrc p sr sp)) := by
    have e := side_src p hgp hup sr sp hsr2 hsp2
    rw [hbp] at e
    exact e
  have H2 : Hid (sideN p.fl.proto (build (setSrc p sr sp)) ds 16 dp 22 = build (setFl p f)) := by
    have e := side_dst (setSrc p sr sp) hg1.1 hg1.2 ds dp hds2 hdp2
    show sideN _ _ _ _ _ _ = _
    rw [← setFl_eq p f hpr, hsr, hsp, hds, hdp]
    exact e
  have HL1 : Hid ((build (setSrc p sr sp)).length = n) := by show _ = _; rw [set_len_src, hbp, hn]
  have HL2 : Hid ((build (setFl p f)).length = n) := by
    show _ = _
    rw [← setFl_eq p f hpr, hsr, hsp, set_len_dst, set_len_src, hbp, hn]
  clear hsh hg1 hgp hup hbp hs hd
  have HSR := Lib.hid hsr
  have HSP := Lib.hid hsp
  have HDS := Lib.hid hds
  have HDP := Lib.hid hdp
  clear hsr hsp hds hdp
  have HPR := Lib.hid hpr
  clear hpr
  have hb0 : Below w.heap.size w (w.alloc (.cells #[.int .i64 f.proto, .int .u32 f.src, .int .i64 f.sp, .int .u32 f.dst, .int .i64 f.dp] 25)) := (Below.refl _ w).alloc (Nat.le_refl _) _
  have hF : Blk (w.alloc (.cells #[.int .i64 f.proto, .int .u32 f.src, .int .i64 f.sp, .int .u32 f.dst, .int .i64 f.dp] 25)) w.heap.size 25 (flc f) := Blk.new w _ _
  go_enter Try.func13, Try.ntmps13
  go_wp2_with fail
  generalize (w.alloc (.cells #[.int .i64 f.proto, .int .u32 f.src, .int .i64 f.sp, .int .u32 f.dst, .int .i64 f.dp] 25)) = wa at *
  have hA1 := hA.below hb0
  have hfl := hF.lt
  (with_reducible refine (opened_yes b p A n c wa HN.out hA1 hc h).mono ?_)
  rintro e w1 ⟨g, k, rfl, HO, hb1⟩
  clear h hn
  generalize p.fl.proto = pr at *
  obtain ⟨cs, hcs⟩ : ∃ cs : Array Value, #[.slice (some ⟨g, 0, none⟩) n k, .int .i64 pr] = cs := ⟨_, rfl⟩
  have hsz : cs.size = 2 := by rw [← hcs]; rfl
  have hst : (storeCells ⟨w1.heap.size, 0, none⟩ cs.toList).run Try.prog (w1.alloc (.cells #[.slice none 0 0, .int .i64 0] 65)) = .ok () ((w1.alloc (.cells #[.slice none 0 0, .int .i64 0] 65)).setRow w1.heap.size cs) := store2 cs (Blk.new w1 65 [.slice none 0 0, .int .i64 0]) rfl (by rw [← hcs]; rfl) (by rw [← hcs]; simp [Value.oneCell'])
  have hNN : Below w1.heap.size w1 ((w1.alloc (.cells #[.slice none 0 0, .int .i64 0] 65)).setRow w1.heap.size cs) := below_row (below_al (Below.refl _ w1) _) (Nat.le_refl _)
  have hPB : Blk ((w1.alloc (.cells #[.slice none 0 0, .int .i64 0] 65)).setRow w1.heap.size cs) w1.heap.size 65 [.slice (some ⟨g, 0, none⟩) n k, .int .i64 pr] := by rw [← hcs]; exact (Blk.new w1 65 [.slice none 0 0, .int .i64 0]).row _
  have hC2 := below_call hb1 hNN
  obtain ⟨g2, hg2⟩ : ∃ g2, w1.heap.size = g2 := ⟨_, rfl⟩
  rw [hg2] at hst hPB
  obtain ⟨w2, hw2⟩ : ∃ w2, (w1.alloc (.cells #[.slice none 0 0, .int .i64 0] 65)).setRow w1.heap.size cs = w2 := ⟨_, rfl⟩
  rw [hw2] at hNN hC2
  rw [hg2] at hw2
  rw [hw2] at hst hPB
  go_upto_region 2 with (fail)
  clear hst hcs hsz hw2
  have hF2 := hF.kept hC2
  have hw2 := below_call hb0 hC2
  have HO2 := Lib.hid (own_below HO.out hNN)
  have hgg := own_lt HO.out (show (Value.slice (some ⟨g, 0, none⟩) n k).ownBlock = some g by simp [Value.ownBlock])
  have hg2n : g2 ≠ g := by omega
  have hgfn : w.heap.size ≠ g := by omega
  obtain ⟨a0, a1, a2, a3, a4⟩ := blk5 hF2
  obtain ⟨b0, b1_⟩ := blk2v hPB
  have hnb : (f.proto != pr) = false := by simp [HPR.out]
  clear HO hNN
  go_wp2_with fail
  (with_reducible refine (acheck_good f w2 hgf).mono ?_)
  rintro e w3 ⟨rfl, hb3⟩
  have hF3 := hF2.kept hb3
  have hP3 := hPB.kept hb3
  have hw3 := below_call hw2 hb3
  have HO3 := Lib.hid (own_below HO2.out hb3)
  clear hgf a0 a1 a2 a3 a4 b0 b1_ HO2 hF2 hPB hw2 hb3
  obtain ⟨a0, a1, a2, a3, a4⟩ := blk5 hF3
  obtain ⟨b0, b1_⟩ := blk2v hP3
  go_wp2_with fail
  (with_reducible refine (side_any wa.heap.size g n k sr 12 sp 20 pr f.src 12 f.sp 20 b w3 HO3.out HN.out (by omega) hn28 (by omega) (by omega) hown hsr2 hsp2 HSR.out rfl HSP.out rfl).mono ?_)
  rintro e w4 ⟨⟨v4, rfl⟩, hO4, hg4⟩
  rw [H1.out] at hO4
  have hF4 := hF3.grown hg4 (by simp; exact hgfn)
  have hP4 := hP3.grown hg4 (by simp; exact hg2n)
  have hw4 : Below w.heap.size w w4 := hw3.grown hg4 hw3.size (fun j e => by injection e with e; omega)
  clear hF3 hP3 hw3 HO3 hg4 a0 a1 a2 a3 a4 b0 b1_
  obtain ⟨a0, a1, a2, a3, a4⟩ := blk5 hF4
  obtain ⟨b0, b1_⟩ := blk2v hP4
  have HO4 := Lib.hid hO4
  clear hO4
  go_wp2_with fail
  (with_reducible refine (side_any wa.heap.size g n k ds 16 dp 22 pr f.dst 16 f.dp 22 (build (setSrc p sr sp)) w4 HO4.out HL1.out (by omega) hn28 (by omega) (by omega) hown hds2 hdp2 HDS.out rfl HDP.out rfl).mono ?_)
  rintro e w5 ⟨⟨v5, rfl⟩, hO5, hg5⟩
  rw [H2.out] at hO5
  have hP5 := hP4.grown hg5 (by simp; exact hg2n)
  have hw5 : Below w.heap.size w w5 := hw4.grown hg5 hw4.size (fun j e => by injection e with e; omega)
  have HO5 := Lib.hid (own_weaken hO5 (show w.heap.size ≤ wa.heap.size by omega))
  obtain ⟨X9, k9, e9, hk9, hR9, -⟩ := own_form hO5
  injection e9 with e9 e10 e11
  subst e9 e11
  replace hR9 : RB w5 (some ⟨g, 0, none⟩) (build (setFl p f)) := hR9
  clear hO5 hg5 hF4 hP4 a0 a1 a2 a3 a4 b0 b1_
  obtain ⟨b0, b1_⟩ := blk2v hP5
  go_wp2_with fail
  go_ret2
  exact ⟨_, _, rfl, hk9, hR9, HO5.out, hw5⟩
end Go.Proofs.Ytleahlgimppjkaa
