/- The walk of rewrite.Both. -/
import Derived.Test.YtbhdjalpkecbeaaRwAlive
import Derived.Test.YtbhdjalpkecbeaaRwLike
import Derived.Test.YtbhdjalpkecbeaaRwOpen
import Derived.Test.YtbhdjalpkecbeaaCopy
namespace Go.Proofs.Ytbhdjalpkecbeaa
set_option linter.unusedVariables false
set_option linter.unusedSimpArgs false
open Go.RowKit

def setFl (p : Pk) (f : Fl) : Pk := { p with fl := f }
theorem setFl_eq (p : Pk) (f : Fl) (h : f.proto = p.fl.proto) : setDst (setSrc p f.src f.sp) f.dst f.dp = setFl p f := by
  obtain ⟨tos, id, ttl, ⟨proto, src, sp, dst, dp⟩, sq, ak, flags, win, data⟩ := p
  obtain ⟨fp, fs, fsp, fd, fdp⟩ := f
  simp only at h
  subst h
  rfl
theorem setFl_good {p : Pk} (hg : GoodP p) (hu : U32s p) {f : Fl} (hf : GoodF f) (hs : 0 ≤ f.src ∧ f.src ≤ 4294967295) (hd : 0 ≤ f.dst ∧ f.dst ≤ 4294967295) (h : f.proto = p.fl.proto) : GoodP (setFl p f) ∧ U32s (setFl p f) := by
  obtain ⟨h1, h2, h3, h4, h5, h6, h7, h8⟩ := hg
  obtain ⟨u1, u2, u3⟩ := hu
  refine ⟨⟨hf, h2, h3, h4, h5, h6, ?_, ?_⟩, hs, hd, u3⟩
  · intro he; exact h7 (by rw [← h]; exact he)
  · show p.data.length ≤ (if f.proto = 17 then 1472 else 1460)
    rw [h]; exact h8
set_option maxHeartbeats 1600000 in
theorem both_no (b : List UInt8) (f : Fl) (A : Option Addr) (n c : Nat) (w : World) (hn : b.length = n) (hA : RB w A b) (hc : n ≤ c) (h : ∀ p, ¬ IsPk b p) :
    Calls Try.prog 16 #[.slice A n c, flv f] w fun e w' => e = .returned (.tuple #[.slice none 0 0, er 2]) ∧ Below w.heap.size w w' := by
  have hb0 : Below w.heap.size w (w.alloc (.cells #[.int .i64 f.proto, .int .u32 f.src, .int .i64 f.sp, .int .u32 f.dst, .int .i64 f.dp] 26)) := (Below.refl _ w).alloc (Nat.le_refl _) _
  have hF : Blk (w.alloc (.cells #[.int .i64 f.proto, .int .u32 f.src, .int .i64 f.sp, .int .u32 f.dst, .int .i64 f.dp] 26)) w.heap.size 26 (flc f) := Blk.new w _ _
  go_enter Try.func16, Try.ntmps16
  go_wp2_with fail
  generalize (w.alloc (.cells #[.int .i64 f.proto, .int .u32 f.src, .int .i64 f.sp, .int .u32 f.dst, .int .i64 f.dp] 26)) = wa at *
  have hA1 := hA.below hb0
  have hfl := hF.lt
  (with_reducible refine (opened_no b A n c wa hn hA1 hc h).mono ?_)
  rintro e w1 ⟨rfl, hb1⟩
  clear h
  obtain ⟨w2, hst, hC2⟩ : ∃ w2, (storeCells ⟨w1.heap.size, 0, none⟩ (#[.slice none 0 0, .int .i64 0] : Array Value).toList).run Try.prog (w1.alloc (.cells #[.slice none 0 0, .int .i64 0] 65)) = .ok () w2 ∧ Below wa.heap.size wa w2 := ⟨_, store2 #[.slice none 0 0, .int .i64 0] (Blk.new w1 65 [.slice none 0 0, .int .i64 0]) rfl rfl (by simp [Value.oneCell']), below_row (below_al hb1 _) hb1.size⟩
  obtain ⟨cs, hcs⟩ : ∃ cs : Array Value, #[.slice none 0 0, .int .i64 0] = cs := ⟨_, rfl⟩
  have hsz : cs.size = 2 := by rw [← hcs]; rfl
  rw [hcs] at hst
  go_upto_region 2 with (fail)
  clear hst hcs hsz
  have hw2 := below_call hb0 hC2
  go_wp2_with fail
  go_ret2
  exact ⟨rfl, hw2⟩
set_option maxRecDepth 100000 in
set_option maxHeartbeats 3200000 in
theorem both_bad (b : List UInt8) (p : Pk) (f : Fl) (A : Option Addr) (n c : Nat) (w : World) (hn : b.length = n) (hA : RB w A b) (hc : n ≤ c) (h : IsPk b p) (hbad : ¬ (GoodF f ∧ f.proto = p.fl.proto)) :
    Calls Try.prog 16 #[.slice A n c, flv f] w fun e w' => e = .returned (.tuple #[.slice none 0 0, er 9]) ∧ Below w.heap.size w w' := by
  have hb0 : Below w.heap.size w (w.alloc (.cells #[.int .i64 f.proto, .int .u32 f.src, .int .i64 f.sp, .int .u32 f.dst, .int .i64 f.dp] 26)) := (Below.refl _ w).alloc (Nat.le_refl _) _
  have hF : Blk (w.alloc (.cells #[.int .i64 f.proto, .int .u32 f.src, .int .i64 f.sp, .int .u32 f.dst, .int .i64 f.dp] 26)) w.heap.size 26 (flc f) := Blk.new w _ _
  go_enter Try.func16, Try.ntmps16
  go_wp2_with fail
  generalize (w.alloc (.cells #[.int .i64 f.proto, .int .u32 f.src, .int .i64 f.sp, .int .u32 f.dst, .int .i64 f.dp] 26)) = wa at *
  have hA1 := hA.below hb0
  have hfl := hF.lt
  (with_reducible refine (opened_yes b p A n c wa hn hA1 hc h).mono ?_)
  rintro e w1 ⟨g, k, rfl, HO, hb1⟩
  clear h
  generalize p.fl.proto = pr at *
  obtain ⟨cs, hcs⟩ : ∃ cs : Array Value, #[.slice (some ⟨g, 0, none⟩) n k, .int .i64 pr] = cs := ⟨_, rfl⟩
  have hsz : cs.size = 2 := by rw [← hcs]; rfl
  have hst : (storeCells ⟨w1.heap.size, 0, none⟩ cs.toList).run Try.prog (w1.alloc (.cells #[.slice none 0 0, .int .i64 0] 65)) = .ok () ((w1.alloc (.cells #[.slice none 0 0, .int .i64 0] 65)).setRow w1.heap.size cs) := store2 cs (Blk.new w1 65 [.slice none 0 0, .int .i64 0]) rfl (by rw [← hcs]; rfl) (by rw [← hcs]; simp [Value.oneCell'])
  have hNN : Below w1.heap.size w1 ((w1.alloc (.cells #[.slice none 0 0, .int .i64 0] 65)).setRow w1.heap.size cs) := below_row (below_al (Below.refl _ w1) _) (Nat.le_refl _)
  have hPB : Blk ((w1.alloc (.cells #[.slice none 0 0, .int .i64 0] 65)).setRow w1.heap.size cs) w1.heap.size 65 [.slice (some ⟨g, 0, none⟩) n k, .int .i64 pr] := by rw [← hcs]; exact (Blk.new w1 65 [.slice none 0 0, .int .i64 0]).row _
  have hC2 := below_call hb1 hNN
  obtain ⟨g2, hg2⟩ : ∃ g2, w1.heap.size = g2 := ⟨_, rfl⟩
  rw [hg2] at hst hPB
  obtain ⟨w2, hw2⟩ : ∃ w2, (w1.alloc (.cells #[.slice none 0 0, .int .i64 0] 65)).setRow w1.heap.size cs = w2 := ⟨_, rfl⟩
  rw [hw2] at hNN hC2
  rw [hg2] at hw2
  rw [hw2] at hst hPB
  go_upto_region 2 with (fail)
  clear hst hcs hsz hw2
  have hF2 := hF.kept hC2
  have hw2 := below_call hb0 hC2
  obtain ⟨a0, a1, a2, a3, a4⟩ := blk5 hF2
  obtain ⟨b0, b1_⟩ := blk2v hPB
  by_cases hgf : GoodF f
  · have hne : f.proto ≠ pr := fun h => hbad ⟨hgf, h⟩
    have hnb : (f.proto != pr) = true := by simp [hne]
    clear hne hbad
    go_wp2_with fail
    (with_reducible refine (acheck_good f w2 hgf).mono ?_)
    rintro e w3 ⟨rfl, hb3⟩
    have hF3 := hF2.kept hb3
    have hP3 := hPB.kept hb3
    have hw3 := below_call hw2 hb3
    clear hgf a0 a1 a2 a3 a4 b0 b1_
    obtain ⟨a0, a1, a2, a3, a4⟩ := blk5 hF3
    obtain ⟨b0, b1_⟩ := blk2v hP3
    go_wp2_with fail
    go_ret2
    exact ⟨rfl, hw3⟩
  · clear hbad
    go_wp2_with fail
    (with_reducible refine (acheck_bad f w2 hgf).mono ?_)
    rintro e w3 ⟨rfl, hb3⟩
    have hw3 := below_call hw2 hb3
    clear hgf
    go_wp2_with fail
    go_ret2
    exact ⟨rfl, hw3⟩
set_option maxRecDepth 100000 in
set_option maxHeartbeats 3200000 in
theorem both_good (b : List UInt8) (p : Pk) (f : Fl) (A : Option Addr) (n c : Nat) (w : World) (hn : b.length = n) (hA : RB w A b) (hc : n ≤ c) (h : IsPk b p) (hgf : GoodF f) (hpr : f.proto = p.fl.proto) (hs : 0 ≤ f.src ∧ f.src ≤ 4294967295) (hd : 0 ≤ f.dst ∧ f.dst ≤ 4294967295) :
    Calls Try.prog 16 #[.slice A n c, flv f] w fun e w' => ∃ X k, e = .returned (.tuple #[.slice X n k, .nilIface]) ∧ n ≤ k ∧ RB w' X (build (setFl p f)) ∧ Hid (w'.ownsRow w.heap.size 5 1 (.slice X n k) n ((build (setFl p f)).map bv)) ∧ Below w.heap.size w w' := by
  have hsh := isPk_shape h
  have hn28 : 28 ≤ n := by have := hsh.1; omega
  have hn15 : n ≤ 1500 := by have := hsh.2.1; omega
  have hown : ow p.fl.proto + 1 < n := by
    have h9 := hsh.2.2.1
    have e9 : p.fl.proto = (b1 b 9 : Int) := by rw [isPk_opn h]; exact (opn_fl b).1
    unfold ow
    split <;> omega
  have HN := Lib.hid hn
  obtain ⟨hgp, hup, hbp⟩ := id h
  obtain ⟨sp, hsp⟩ := Int.eq_ofNat_of_zero_le hgf.2.1.1
  obtain ⟨dp, hdp⟩ := Int.eq_ofNat_of_zero_le hgf.2.2.1
  obtain ⟨sr, hsr⟩ := Int.eq_ofNat_of_zero_le hs.1
  obtain ⟨ds, hds⟩ := Int.eq_ofNat_of_zero_le hd.1
  have hsp2 : sp ≤ 65535 := by have := hgf.2.1.2; omega
  have hdp2 : dp ≤ 65535 := by have := hgf.2.2.2; omega
  have hsr2 : sr ≤ 4294967295 := by have := hs.2; omega
  have hds2 : ds ≤ 4294967295 := by have := hd.2; omega
  have hg1 := setSrc_good hgp hup sr sp hsr2 hsp2
  have H1 : Hid (sideN p.fl.proto b sr 12 sp 20 = build (setSrc p sr sp)) := by
    have e := side_src p hgp hup sr sp hsr2 hsp2
    rw [hbp] at e
    exact e
  have H2 : Hid (sideN p.fl.proto (build (setSrc p sr sp)) ds 16 dp 22 = build (setFl p f)) := by
    have e := side_dst (setSrc p sr sp) hg1.1 hg1.2 ds dp hds2 hdp2
    show sideN _ _ _ _ _ _ = _
    rw [← setFl_eq p f hpr, hsr, hsp, hds, hdp]
    exact e
  have HL1 : Hid ((build (setSrc p sr sp)).length = n) := by show _ = _; rw [set_len_src, hbp, hn]
  have HL2 : Hid ((build (setFl p f)).length = n) := by
    show _ = _
    rw [← setFl_eq p f hpr, hsr, hsp, set_len_dst, set_len_src, hbp, hn]
  clear hsh hg1 hgp hup hbp hs hd
  have HSR := Lib.hid hsr
  have HSP := Lib.hid hsp
  have HDS := Lib.hid hds
  have HDP := Lib.hid hdp
  clear hsr hsp hds hdp
  have HPR := Lib.hid hpr
  clear hpr
  have hb0 : Below w.heap.size w (w.alloc (.cells #[.int .i64 f.proto, .int .u32 f.src, .int .i64 f.sp, .int .u32 f.dst, .int .i64 f.dp] 26)) := (Below.refl _ w).alloc (Nat.le_refl _) _
  have hF : Blk (w.alloc (.cells #[.int .i64 f.proto, .int .u32 f.src, .int .i64 f.sp, .int .u32 f.dst, .int .i64 f.dp] 26)) w.heap.size 26 (flc f) := Blk.new w _ _
  go_enter Try.func16, Try.ntmps16
  go_wp2_with fail
  generalize (w.alloc (.cells #[.int .i64 f.proto, .int .u32 f.src, .int .i64 f.sp, .int .u32 f.dst, .int .i64 f.dp] 26)) = wa at *
  have hA1 := hA.below hb0
  have hfl := hF.lt
  (with_reducible refine (opened_yes b p A n c wa HN.out hA1 hc h).mono ?_)
  rintro e w1 ⟨g, k, rfl, HO, hb1⟩
  clear h hn
  generalize p.fl.proto = pr at *
  obtain ⟨cs, hcs⟩ : ∃ cs : Array Value, #[.slice (some ⟨g, 0, none⟩) n k, .int .i64 pr] = cs := ⟨_, rfl⟩
  have hsz : cs.size = 2 := by rw [← hcs]; rfl
  have hst : (storeCells ⟨w1.heap.size, 0, none⟩ cs.toList).run Try.prog (w1.alloc (.cells #[.slice none 0 0, .int .i64 0] 65)) = .ok () ((w1.alloc (.cells #[.slice none 0 0, .int .i64 0] 65)).setRow w1.heap.size cs) := store2 cs (Blk.new w1 65 [.slice none 0 0, .int .i64 0]) rfl (by rw [← hcs]; rfl) (by rw [← hcs]; simp [Value.oneCell'])
  have hNN : Below w1.heap.size w1 ((w1.alloc (.cells #[.slice none 0 0, .int .i64 0] 65)).setRow w1.heap.size cs) := below_row (below_al (Below.refl _ w1) _) (Nat.le_refl _)
  have hPB : Blk ((w1.alloc (.cells #[.slice none 0 0, .int .i64 0] 65)).setRow w1.heap.size cs) w1.heap.size 65 [.slice (some ⟨g, 0, none⟩) n k, .int .i64 pr] := by rw [← hcs]; exact (Blk.new w1 65 [.slice none 0 0, .int .i64 0]).row _
  have hC2 := below_call hb1 hNN
  obtain ⟨g2, hg2⟩ : ∃ g2, w1.heap.size = g2 := ⟨_, rfl⟩
  rw [hg2] at hst hPB
  obtain ⟨w2, hw2⟩ : ∃ w2, (w1.alloc (.cells #[.slice none 0 0, .int .i64 0] 65)).setRow w1.heap.size cs = w2 := ⟨_, rfl⟩
  rw [hw2] at hNN hC2
  rw [hg2] at hw2
  rw [hw2] at hst hPB
  go_upto_region 2 with (fail)
  clear hst hcs hsz hw2
  have hF2 := hF.kept hC2
  have hw2 := below_call hb0 hC2
  have HO2 := Lib.hid (own_below HO.out hNN)
  have hgg := own_lt HO.out (show (Value.slice (some ⟨g, 0, none⟩) n k).ownBlock = some g by simp [Value.ownBlock])
  have hg2n : g2 ≠ g := by omega
  have hgfn : w.heap.size ≠ g := by omega
  obtain ⟨a0, a1, a2, a3, a4⟩ := blk5 hF2
  obtain ⟨b0, b1_⟩ := blk2v hPB
  have hnb : (f.proto != pr) = false := by simp [HPR.out]
  clear HO hNN
  go_wp2_with fail
  (with_reducible refine (acheck_good f w2 hgf).mono ?_)
  rintro e w3 ⟨rfl, hb3⟩
  have hF3 := hF2.kept hb3
  have hP3 := hPB.kept hb3
  have hw3 := below_call hw2 hb3
  have HO3 := Lib.hid (own_below HO2.out hb3)
  clear hgf a0 a1 a2 a3 a4 b0 b1_ HO2 hF2 hPB hw2 hb3
  obtain ⟨a0, a1, a2, a3, a4⟩ := blk5 hF3
  obtain ⟨b0, b1_⟩ := blk2v hP3
  go_wp2_with fail
  (with_reducible refine (side_any wa.heap.size g n k sr 12 sp 20 pr f.src 12 f.sp 20 b w3 HO3.out HN.out (by omega) hn28 (by omega) (by omega) hown hsr2 hsp2 HSR.out rfl HSP.out rfl).mono ?_)
  rintro e w4 ⟨⟨v4, rfl⟩, hO4, hg4⟩
  rw [H1.out] at hO4
  have hF4 := hF3.grown hg4 (by simp; exact hgfn)
  have hP4 := hP3.grown hg4 (by simp; exact hg2n)
  have hw4 : Below w.heap.size w w4 := hw3.grown hg4 hw3.size (fun j e => by injection e with e; omega)
  clear hF3 hP3 hw3 HO3 hg4 a0 a1 a2 a3 a4 b0 b1_
  obtain ⟨a0, a1, a2, a3, a4⟩ := blk5 hF4
  obtain ⟨b0, b1_⟩ := blk2v hP4
  have HO4 := Lib.hid hO4
  clear hO4
  go_wp2_with fail
  (with_reducible refine (side_any wa.heap.size g n k ds 16 dp 22 pr f.dst 16 f.dp 22 (build (setSrc p sr sp)) w4 HO4.out HL1.out (by omega) hn28 (by omega) (by omega) hown hds2 hdp2 HDS.out rfl HDP.out rfl).mono ?_)
  rintro e w5 ⟨⟨v5, rfl⟩, hO5, hg5⟩
  rw [H2.out] at hO5
  have hP5 := hP4.grown hg5 (by simp; exact hg2n)
  have hw5 : Below w.heap.size w w5 := hw4.grown hg5 hw4.size (fun j e => by injection e with e; omega)
  have HO5 := Lib.hid (own_weaken hO5 (show w.heap.size ≤ wa.heap.size by omega))
  obtain ⟨X9, k9, e9, hk9, hR9, -⟩ := own_form hO5
  injection e9 with e9 e10 e11
  subst e9 e11
  replace hR9 : RB w5 (some ⟨g, 0, none⟩) (build (setFl p f)) := hR9
  clear hO5 hg5 hF4 hP4 a0 a1 a2 a3 a4 b0 b1_
  obtain ⟨b0, b1_⟩ := blk2v hP5
  go_wp2_with fail
  go_ret2
  exact ⟨_, _, rfl, hk9, hR9, HO5.out, hw5⟩
end Go.Proofs.Ytbhdjalpkecbeaa
namespace Go.Proofs.Ytbhdjalpkecbeaa
set_option linter.unusedVariables false
set_option linter.unusedSimpArgs false
open Go.RowKit

theorem setSrc_bad {p : Pk} {a port : Int} (h : port < 0 ∨ 65535 < port) : ¬ GoodP (setSrc p a port) := by
  rintro ⟨⟨-, h2, -⟩, -⟩
  have h3 : (0 : Int) ≤ port ∧ port ≤ 65535 := h2
  omega
theorem setDst_bad {p : Pk} {a port : Int} (h : port < 0 ∨ 65535 < port) : ¬ GoodP (setDst p a port) := by
  rintro ⟨⟨-, -, h2⟩, -⟩
  have h3 : (0 : Int) ≤ port ∧ port ≤ 65535 := h2
  omega
/-- What the document's rewritings answer. -/
def RfPost (w : World) (ok bad9 : Prop) (wq : List UInt8) (e : Ending) (w' : World) : Prop :=
  ((ok ∧ ∃ X k, e = .returned (.tuple #[.slice X wq.length k, .int .i64 0]) ∧ RB w' X wq) ∨ (bad9 ∧ e = .returned (.tuple #[.slice none 0 0, .int .i64 9])) ∨ (¬ ok ∧ ¬ bad9 ∧ e = .returned (.tuple #[.slice none 0 0, .int .i64 2]))) ∧ Below w.heap.size w w'
set_option maxRecDepth 100000 in
set_option maxHeartbeats 3200000 in
theorem rsource_no (b : List UInt8) (A : Option Addr) (n c : Nat) (a port : Int) (w : World) (hn : b.length = n) (hA : RB w A b) (hc : n ≤ c) (hl : n ≤ 2000000) (h : ∀ p, ¬ IsPk b p) :
    Calls Try.prog 19 #[.slice A n c, .int .u32 a, .int .i64 port] w fun e w' => e = .returned (.tuple #[.slice none 0 0, .int .i64 2]) ∧ Below w.heap.size w w' := by
  go_enter Try.func19, Try.ntmps19
  go_wp2_with fail
  (with_reducible refine (rparse_c b A n c w hn hA hc (by omega)).mono ?_)
  rintro e w1 ⟨q, B1, d1, E1, rfl, hpd, hbp, hcp, hb1⟩
  rcases hcp.out with ⟨hq, -⟩ | ⟨-, rfl⟩
  · exact absurd hq (h q)
  clear h hcp
  obtain ⟨cs, hcs⟩ : ∃ cs : Array Value, #[.int .i64 q.tos, .int .i64 q.id, .int .i64 q.ttl, .int .i64 q.fl.proto, .int .u32 q.fl.src, .int .i64 q.fl.sp, .int .u32 q.fl.dst, .int .i64 q.fl.dp, .int .u32 q.seq, .int .u32 q.ack, .int .i64 q.flags, .int .i64 q.win, .slice B1 q.data.length d1] = cs := ⟨_, rfl⟩
  have hsz : cs.size = 13 := by rw [← hcs]; rfl
  have hsl : cs.toList.length = 13 := by rw [← hcs]; rfl
  have hone : ∀ v ∈ cs.toList, v.oneCell' = true := by rw [← hcs]; exact pkc_one q B1 d1
  have hst := store_new (P := Try.prog) w1 cs hsl hone
  have hN : Below w1.heap.size w1 ((w1.alloc (.cells #[.int .i64 0, .int .i64 0, .int .i64 0, .int .i64 0, .int .u32 0, .int .i64 0, .int .u32 0, .int .i64 0, .int .u32 0, .int .u32 0, .int .i64 0, .int .i64 0, .slice none 0 0] 52)).setRow w1.heap.size cs) := below_row (below_al (Below.refl _ w1) _) (Nat.le_refl _)
  have hBa : Blk ((w1.alloc (.cells #[.int .i64 0, .int .i64 0, .int .i64 0, .int .i64 0, .int .u32 0, .int .i64 0, .int .u32 0, .int .i64 0, .int .u32 0, .int .u32 0, .int .i64 0, .int .i64 0, .slice none 0 0] 52)).setRow w1.heap.size cs) w1.heap.size 52 (pkc q B1 d1) := by rw [← hcs]; exact (Blk.new w1 52 (pkc pk0 none 0)).row (pkc q B1 d1)
  have hCa := below_call hb1 hN
  have hza := hb1.size
  clear hone hN
  generalize hga : w1.heap.size = g2 at *
  go_upto_region 2 with (fail)
  generalize (w1.alloc (.cells #[.int .i64 0, .int .i64 0, .int .i64 0, .int .i64 0, .int .u32 0, .int .i64 0, .int .u32 0, .int .i64 0, .int .u32 0, .int .u32 0, .int .i64 0, .int .i64 0, .slice none 0 0] 52)).setRow g2 cs = w2 at *
  clear hcs hsz hsl hst hb1
  clear hBa
  go_wp2_with fail
  go_ret2
  exact ⟨rfl, hCa⟩
set_option maxRecDepth 100000 in
set_option maxHeartbeats 3200000 in
theorem rsource_yes (b : List UInt8) (p : Pk) (A : Option Addr) (n c : Nat) (a port : Int) (w : World) (hn : b.length = n) (hA : RB w A b) (hc : n ≤ c) (hl : n ≤ 2000000) (h : IsPk b p) (ha : 0 ≤ a ∧ a ≤ 4294967295) :
    Calls Try.prog 19 #[.slice A n c, .int .u32 a, .int .i64 port] w fun e w' => Hid (((0 ≤ port ∧ port ≤ 65535) ∧ ∃ X k, e = .returned (.tuple #[.slice X n k, .int .i64 0]) ∧ RB w' X (build (setSrc p a port))) ∨ ((port < 0 ∨ 65535 < port) ∧ e = .returned (.tuple #[.slice none 0 0, .int .i64 9]))) ∧ Below w.heap.size w w' := by
  have HI := Lib.hid h
  clear h
  go_enter Try.func19, Try.ntmps19
  go_wp2_with fail
  (with_reducible refine (rparse_c b A n c w hn hA hc (by omega)).mono ?_)
  rintro e w1 ⟨q, B1, d1, E1, rfl, hpd, hbp, hcp, hb1⟩
  rcases hcp.out with ⟨hq, rfl⟩ | ⟨hq, -⟩
  rotate_left
  · exact absurd HI.out (hq p)
  obtain rfl : q = p := isPk_inj hq HI.out
  clear hcp hq
  have HL : Hid ((build (setSrc q a port)).length = n) := by show _ = _; rw [set_len_src, HI.out.2.2, hn]
  obtain ⟨cs, hcs⟩ : ∃ cs : Array Value, #[.int .i64 q.tos, .int .i64 q.id, .int .i64 q.ttl, .int .i64 q.fl.proto, .int .u32 q.fl.src, .int .i64 q.fl.sp, .int .u32 q.fl.dst, .int .i64 q.fl.dp, .int .u32 q.seq, .int .u32 q.ack, .int .i64 q.flags, .int .i64 q.win, .slice B1 q.data.length d1] = cs := ⟨_, rfl⟩
  have hsz : cs.size = 13 := by rw [← hcs]; rfl
  have hsl : cs.toList.length = 13 := by rw [← hcs]; rfl
  have hone : ∀ v ∈ cs.toList, v.oneCell' = true := by rw [← hcs]; exact pkc_one q B1 d1
  have hst := store_new (P := Try.prog) w1 cs hsl hone
  have hN : Below w1.heap.size w1 ((w1.alloc (.cells #[.int .i64 0, .int .i64 0, .int .i64 0, .int .i64 0, .int .u32 0, .int .i64 0, .int .u32 0, .int .i64 0, .int .u32 0, .int .u32 0, .int .i64 0, .int .i64 0, .slice none 0 0] 52)).setRow w1.heap.size cs) := below_row (below_al (Below.refl _ w1) _) (Nat.le_refl _)
  have hBa : Blk ((w1.alloc (.cells #[.int .i64 0, .int .i64 0, .int .i64 0, .int .i64 0, .int .u32 0, .int .i64 0, .int .u32 0, .int .i64 0, .int .u32 0, .int .u32 0, .int .i64 0, .int .i64 0, .slice none 0 0] 52)).setRow w1.heap.size cs) w1.heap.size 52 (pkc q B1 d1) := by rw [← hcs]; exact (Blk.new w1 52 (pkc pk0 none 0)).row (pkc q B1 d1)
  have hpd2 := hpd.below hN
  have hCa := below_call hb1 hN
  have hza := hb1.size
  clear hone hN
  generalize hga : w1.heap.size = g2 at *
  go_upto_region 2 with (fail)
  generalize (w1.alloc (.cells #[.int .i64 0, .int .i64 0, .int .i64 0, .int .i64 0, .int .u32 0, .int .i64 0, .int .u32 0, .int .i64 0, .int .u32 0, .int .u32 0, .int .i64 0, .int .i64 0, .slice none 0 0] 52)).setRow g2 cs = w2 at *
  clear hcs hsz hsl hst hb1
  have hBn : ∀ ad, B1 = some ad → ad.block ≠ g2 := fun ad e => by have := (hbp.out ad e).2; omega
  obtain ⟨c0, c1, c2, c3, c4, c5, c6, c7, c8, c9, c10, c11, c12⟩ := blk13 hBa
  have f1 := hBa.frozen 4
  have f2 := hBa.frozen 5
  go_upto_region 6 with (fail)
  have hB3 : Blk ((w2.setCell ⟨g2, 4, none⟩ (.int .u32 a)).setCell ⟨g2, 5, none⟩ (.int .i64 port)) g2 52 (pkc (setSrc q a port) B1 d1) := (hBa.set_ 4 _).set_ 5 _
  have hpd3 : PkD ((w2.setCell ⟨g2, 4, none⟩ (.int .u32 a)).setCell ⟨g2, 5, none⟩ (.int .i64 port)) B1 d1 (setSrc q a port) := ⟨hpd2.1, rb_set_far (rb_set_far hpd2.2 hBn) hBn⟩
  have hw3 : Below w.heap.size w ((w2.setCell ⟨g2, 4, none⟩ (.int .u32 a)).setCell ⟨g2, 5, none⟩ (.int .i64 port)) := (hCa.setCell (show w.heap.size ≤ g2 by omega) _).setCell (show w.heap.size ≤ g2 by omega) _
  generalize (w2.setCell ⟨g2, 4, none⟩ (.int .u32 a)).setCell ⟨g2, 5, none⟩ (.int .i64 port) = w3 at *
  clear hBa hCa hpd hpd2 f1 f2 c0 c1 c2 c3 c4 c5 c6 c7 c8 c9 c10 c11 c12
  by_cases hpt : port < 0 ∨ 65535 < port
  · have HBAD := Lib.hid (setSrc_bad (p := q) (a := a) hpt)
    have HPT := Lib.hid hpt
    clear hpt
    generalize setSrc q a port = r at *
    obtain ⟨c0, c1, c2, c3, c4, c5, c6, c7, c8, c9, c10, c11, c12⟩ := blk13 hB3
    go_wp2_with fail
    (with_reducible refine (rbuild_bad r B1 d1 w3 HBAD.out).mono ?_)
    rintro e w4 ⟨rfl, hb4⟩
    have hw4 := below_call hw3 hb4
    clear c0 c1 c2 c3 c4 c5 c6 c7 c8 c9 c10 c11 c12
    go_wp2_with fail
    go_ret2
    exact ⟨.inr ⟨HPT.out, rfl⟩, hw4⟩
  · have HPT : Hid (0 ≤ port ∧ port ≤ 65535) := by show _ ∧ _; omega
    have HGU := Lib.hid (isPk_src HI.out ha HPT.out)
    clear hpt
    generalize hr : setSrc q a port = r at *
    have HR0 := Lib.hid hr
    clear hr
    have HG1 : Hid (GoodP r ∧ U32s r) := ⟨HGU.out.1, HGU.out.2.1⟩
    obtain ⟨c0, c1, c2, c3, c4, c5, c6, c7, c8, c9, c10, c11, c12⟩ := blk13 hB3
    go_wp2_with fail
    (with_reducible refine (rbuild_n r B1 d1 w3 hpd3 HG1.out.1 HG1.out.2).mono ?_)
    rintro e w4 ⟨X, k, rfl, hk, hR, -, hb4⟩
    rw [HL.out]
    have hw4 := below_call hw3 hb4
    clear c0 c1 c2 c3 c4 c5 c6 c7 c8 c9 c10 c11 c12
    go_wp2_with fail
    go_ret2
    exact ⟨.inl ⟨HPT.out, X, k, rfl, by rw [HR0.out]; exact hR⟩, hw4⟩
set_option maxRecDepth 100000 in
set_option maxHeartbeats 3200000 in
theorem rdest_no (b : List UInt8) (A : Option Addr) (n c : Nat) (a port : Int) (w : World) (hn : b.length = n) (hA : RB w A b) (hc : n ≤ c) (hl : n ≤ 2000000) (h : ∀ p, ¬ IsPk b p) :
    Calls Try.prog 20 #[.slice A n c, .int .u32 a, .int .i64 port] w fun e w' => e = .returned (.tuple #[.slice none 0 0, .int .i64 2]) ∧ Below w.heap.size w w' := by
  go_enter Try.func20, Try.ntmps20
  go_wp2_with fail
  (with_reducible refine (rparse_c b A n c w hn hA hc (by omega)).mono ?_)
  rintro e w1 ⟨q, B1, d1, E1, rfl, hpd, hbp, hcp, hb1⟩
  rcases hcp.out with ⟨hq, -⟩ | ⟨-, rfl⟩
  · exact absurd hq (h q)
  clear h hcp
  obtain ⟨cs, hcs⟩ : ∃ cs : Array Value, #[.int .i64 q.tos, .int .i64 q.id, .int .i64 q.ttl, .int .i64 q.fl.proto, .int .u32 q.fl.src, .int .i64 q.fl.sp, .int .u32 q.fl.dst, .int .i64 q.fl.dp, .int .u32 q.seq, .int .u32 q.ack, .int .i64 q.flags, .int .i64 q.win, .slice B1 q.data.length d1] = cs := ⟨_, rfl⟩
  have hsz : cs.size = 13 := by rw [← hcs]; rfl
  have hsl : cs.toList.length = 13 := by rw [← hcs]; rfl
  have hone : ∀ v ∈ cs.toList, v.oneCell' = true := by rw [← hcs]; exact pkc_one q B1 d1
  have hst := store_new (P := Try.prog) w1 cs hsl hone
  have hN : Below w1.heap.size w1 ((w1.alloc (.cells #[.int .i64 0, .int .i64 0, .int .i64 0, .int .i64 0, .int .u32 0, .int .i64 0, .int .u32 0, .int .i64 0, .int .u32 0, .int .u32 0, .int .i64 0, .int .i64 0, .slice none 0 0] 52)).setRow w1.heap.size cs) := below_row (below_al (Below.refl _ w1) _) (Nat.le_refl _)
  have hBa : Blk ((w1.alloc (.cells #[.int .i64 0, .int .i64 0, .int .i64 0, .int .i64 0, .int .u32 0, .int .i64 0, .int .u32 0, .int .i64 0, .int .u32 0, .int .u32 0, .int .i64 0, .int .i64 0, .slice none 0 0] 52)).setRow w1.heap.size cs) w1.heap.size 52 (pkc q B1 d1) := by rw [← hcs]; exact (Blk.new w1 52 (pkc pk0 none 0)).row (pkc q B1 d1)
  have hCa := below_call hb1 hN
  have hza := hb1.size
  clear hone hN
  generalize hga : w1.heap.size = g2 at *
  go_upto_region 2 with (fail)
  generalize (w1.alloc (.cells #[.int .i64 0, .int .i64 0, .int .i64 0, .int .i64 0, .int .u32 0, .int .i64 0, .int .u32 0, .int .i64 0, .int .u32 0, .int .u32 0, .int .i64 0, .int .i64 0, .slice none 0 0] 52)).setRow g2 cs = w2 at *
  clear hcs hsz hsl hst hb1
  clear hBa
  go_wp2_with fail
  go_ret2
  exact ⟨rfl, hCa⟩
set_option maxRecDepth 100000 in
set_option maxHeartbeats 3200000 in
theorem rdest_yes (b : List UInt8) (p : Pk) (A : Option Addr) (n c : Nat) (a port : Int) (w : World) (hn : b.length = n) (hA : RB w A b) (hc : n ≤ c) (hl : n ≤ 2000000) (h : IsPk b p) (ha : 0 ≤ a ∧ a ≤ 4294967295) :
    Calls Try.prog 20 #[.slice A n c, .int .u32 a, .int .i64 port] w fun e w' => Hid (((0 ≤ port ∧ port ≤ 65535) ∧ ∃ X k, e = .returned (.tuple #[.slice X n k, .int .i64 0]) ∧ RB w' X (build (setDst p a port))) ∨ ((port < 0 ∨ 65535 < port) ∧ e = .returned (.tuple #[.slice none 0 0, .int .i64 9]))) ∧ Below w.heap.size w w' := by
  have HI := Lib.hid h
  clear h
  go_enter Try.func20, Try.ntmps20
  go_wp2_with fail
  (with_reducible refine (rparse_c b A n c w hn hA hc (by omega)).mono ?_)
  rintro e w1 ⟨q, B1, d1, E1, rfl, hpd, hbp, hcp, hb1⟩
  rcases hcp.out with ⟨hq, rfl⟩ | ⟨hq, -⟩
  rotate_left
  · exact absurd HI.out (hq p)
  obtain rfl : q = p := isPk_inj hq HI.out
  clear hcp hq
  have HL : Hid ((build (setDst q a port)).length = n) := by show _ = _; rw [set_len_dst, HI.out.2.2, hn]
  obtain ⟨cs, hcs⟩ : ∃ cs : Array Value, #[.int .i64 q.tos, .int .i64 q.id, .int .i64 q.ttl, .int .i64 q.fl.proto, .int .u32 q.fl.src, .int .i64 q.fl.sp, .int .u32 q.fl.dst, .int .i64 q.fl.dp, .int .u32 q.seq, .int .u32 q.ack, .int .i64 q.flags, .int .i64 q.win, .slice B1 q.data.length d1] = cs := ⟨_, rfl⟩
  have hsz : cs.size = 13 := by rw [← hcs]; rfl
  have hsl : cs.toList.length = 13 := by rw [← hcs]; rfl
  have hone : ∀ v ∈ cs.toList, v.oneCell' = true := by rw [← hcs]; exact pkc_one q B1 d1
  have hst := store_new (P := Try.prog) w1 cs hsl hone
  have hN : Below w1.heap.size w1 ((w1.alloc (.cells #[.int .i64 0, .int .i64 0, .int .i64 0, .int .i64 0, .int .u32 0, .int .i64 0, .int .u32 0, .int .i64 0, .int .u32 0, .int .u32 0, .int .i64 0, .int .i64 0, .slice none 0 0] 52)).setRow w1.heap.size cs) := below_row (below_al (Below.refl _ w1) _) (Nat.le_refl _)
  have hBa : Blk ((w1.alloc (.cells #[.int .i64 0, .int .i64 0, .int .i64 0, .int .i64 0, .int .u32 0, .int .i64 0, .int .u32 0, .int .i64 0, .int .u32 0, .int .u32 0, .int .i64 0, .int .i64 0, .slice none 0 0] 52)).setRow w1.heap.size cs) w1.heap.size 52 (pkc q B1 d1) := by rw [← hcs]; exact (Blk.new w1 52 (pkc pk0 none 0)).row (pkc q B1 d1)
  have hpd2 := hpd.below hN
  have hCa := below_call hb1 hN
  have hza := hb1.size
  clear hone hN
  generalize hga : w1.heap.size = g2 at *
  go_upto_region 2 with (fail)
  generalize (w1.alloc (.cells #[.int .i64 0, .int .i64 0, .int .i64 0, .int .i64 0, .int .u32 0, .int .i64 0, .int .u32 0, .int .i64 0, .int .u32 0, .int .u32 0, .int .i64 0, .int .i64 0, .slice none 0 0] 52)).setRow g2 cs = w2 at *
  clear hcs hsz hsl hst hb1
  have hBn : ∀ ad, B1 = some ad → ad.block ≠ g2 := fun ad e => by have := (hbp.out ad e).2; omega
  obtain ⟨c0, c1, c2, c3, c4, c5, c6, c7, c8, c9, c10, c11, c12⟩ := blk13 hBa
  have f1 := hBa.frozen 6
  have f2 := hBa.frozen 7
  go_upto_region 6 with (fail)
  have hB3 : Blk ((w2.setCell ⟨g2, 6, none⟩ (.int .u32 a)).setCell ⟨g2, 7, none⟩ (.int .i64 port)) g2 52 (pkc (setDst q a port) B1 d1) := (hBa.set_ 6 _).set_ 7 _
  have hpd3 : PkD ((w2.setCell ⟨g2, 6, none⟩ (.int .u32 a)).setCell ⟨g2, 7, none⟩ (.int .i64 port)) B1 d1 (setDst q a port) := ⟨hpd2.1, rb_set_far (rb_set_far hpd2.2 hBn) hBn⟩
  have hw3 : Below w.heap.size w ((w2.setCell ⟨g2, 6, none⟩ (.int .u32 a)).setCell ⟨g2, 7, none⟩ (.int .i64 port)) := (hCa.setCell (show w.heap.size ≤ g2 by omega) _).setCell (show w.heap.size ≤ g2 by omega) _
  generalize (w2.setCell ⟨g2, 6, none⟩ (.int .u32 a)).setCell ⟨g2, 7, none⟩ (.int .i64 port) = w3 at *
  clear hBa hCa hpd hpd2 f1 f2 c0 c1 c2 c3 c4 c5 c6 c7 c8 c9 c10 c11 c12
  by_cases hpt : port < 0 ∨ 65535 < port
  · have HBAD := Lib.hid (setDst_bad (p := q) (a := a) hpt)
    have HPT := Lib.hid hpt
    clear hpt
    generalize setDst q a port = r at *
    obtain ⟨c0, c1, c2, c3, c4, c5, c6, c7, c8, c9, c10, c11, c12⟩ := blk13 hB3
    go_wp2_with fail
    (with_reducible refine (rbuild_bad r B1 d1 w3 HBAD.out).mono ?_)
    rintro e w4 ⟨rfl, hb4⟩
    have hw4 := below_call hw3 hb4
    clear c0 c1 c2 c3 c4 c5 c6 c7 c8 c9 c10 c11 c12
    go_wp2_with fail
    go_ret2
    exact ⟨.inr ⟨HPT.out, rfl⟩, hw4⟩
  · have HPT : Hid (0 ≤ port ∧ port ≤ 65535) := by show _ ∧ _; omega
    have HGU := Lib.hid (isPk_dst HI.out ha HPT.out)
    clear hpt
    generalize hr : setDst q a port = r at *
    have HR0 := Lib.hid hr
    clear hr
    have HG1 : Hid (GoodP r ∧ U32s r) := ⟨HGU.out.1, HGU.out.2.1⟩
    obtain ⟨c0, c1, c2, c3, c4, c5, c6, c7, c8, c9, c10, c11, c12⟩ := blk13 hB3
    go_wp2_with fail
    (with_reducible refine (rbuild_n r B1 d1 w3 hpd3 HG1.out.1 HG1.out.2).mono ?_)
    rintro e w4 ⟨X, k, rfl, hk, hR, -, hb4⟩
    rw [HL.out]
    have hw4 := below_call hw3 hb4
    clear c0 c1 c2 c3 c4 c5 c6 c7 c8 c9 c10 c11 c12
    go_wp2_with fail
    go_ret2
    exact ⟨.inl ⟨HPT.out, X, k, rfl, by rw [HR0.out]; exact hR⟩, hw4⟩
set_option maxRecDepth 100000 in
set_option maxHeartbeats 3200000 in
theorem rboth_no (b : List UInt8) (f : Fl) (A : Option Addr) (n c : Nat) (w : World) (hn : b.length = n) (hA : RB w A b) (hc : n ≤ c) (hl : n ≤ 2000000) (h : ∀ p, ¬ IsPk b p) :
    Calls Try.prog 21 #[.slice A n c, flv f] w fun e w' => e = .returned (.tuple #[.slice none 0 0, .int .i64 2]) ∧ Below w.heap.size w w' := by
  have hb0 : Below w.heap.size w (w.alloc (.cells #[.int .i64 f.proto, .int .u32 f.src, .int .i64 f.sp, .int .u32 f.dst, .int .i64 f.dp] 26)) := (Below.refl _ w).alloc (Nat.le_refl _) _
  go_enter Try.func21, Try.ntmps21
  go_wp2_with fail
  generalize (w.alloc (.cells #[.int .i64 f.proto, .int .u32 f.src, .int .i64 f.sp, .int .u32 f.dst, .int .i64 f.dp] 26)) = wa at *
  (with_reducible refine (rparse_c b A n c wa hn (hA.below hb0) hc (by omega)).mono ?_)
  rintro e w1 ⟨q, B1, d1, E1, rfl, hpd, hbp, hcp, hb1⟩
  rcases hcp.out with ⟨hq, -⟩ | ⟨-, rfl⟩
  · exact absurd hq (h q)
  clear h hcp
  obtain ⟨cs, hcs⟩ : ∃ cs : Array Value, #[.int .i64 q.tos, .int .i64 q.id, .int .i64 q.ttl, .int .i64 q.fl.proto, .int .u32 q.fl.src, .int .i64 q.fl.sp, .int .u32 q.fl.dst, .int .i64 q.fl.dp, .int .u32 q.seq, .int .u32 q.ack, .int .i64 q.flags, .int .i64 q.win, .slice B1 q.data.length d1] = cs := ⟨_, rfl⟩
  have hsz : cs.size = 13 := by rw [← hcs]; rfl
  have hsl : cs.toList.length = 13 := by rw [← hcs]; rfl
  have hone : ∀ v ∈ cs.toList, v.oneCell' = true := by rw [← hcs]; exact pkc_one q B1 d1
  have hst := store_new (P := Try.prog) w1 cs hsl hone
  have hN : Below w1.heap.size w1 ((w1.alloc (.cells #[.int .i64 0, .int .i64 0, .int .i64 0, .int .i64 0, .int .u32 0, .int .i64 0, .int .u32 0, .int .i64 0, .int .u32 0, .int .u32 0, .int .i64 0, .int .i64 0, .slice none 0 0] 52)).setRow w1.heap.size cs) := below_row (below_al (Below.refl _ w1) _) (Nat.le_refl _)
  have hBa : Blk ((w1.alloc (.cells #[.int .i64 0, .int .i64 0, .int .i64 0, .int .i64 0, .int .u32 0, .int .i64 0, .int .u32 0, .int .i64 0, .int .u32 0, .int .u32 0, .int .i64 0, .int .i64 0, .slice none 0 0] 52)).setRow w1.heap.size cs) w1.heap.size 52 (pkc q B1 d1) := by rw [← hcs]; exact (Blk.new w1 52 (pkc pk0 none 0)).row (pkc q B1 d1)
  have hCa := below_call hb1 hN
  have hza := hb1.size
  clear hone hN
  generalize hga : w1.heap.size = g2 at *
  go_upto_region 2 with (fail)
  generalize (w1.alloc (.cells #[.int .i64 0, .int .i64 0, .int .i64 0, .int .i64 0, .int .u32 0, .int .i64 0, .int .u32 0, .int .i64 0, .int .u32 0, .int .u32 0, .int .i64 0, .int .i64 0, .slice none 0 0] 52)).setRow g2 cs = w2 at *
  clear hcs hsz hsl hst hb1
  have hw2 := below_call hb0 hCa
  clear hBa
  go_wp2_with fail
  go_ret2
  exact ⟨rfl, hw2⟩
set_option maxRecDepth 100000 in
set_option maxHeartbeats 3200000 in
theorem rboth_yes (b : List UInt8) (p : Pk) (f : Fl) (A : Option Addr) (n c : Nat) (w : World) (hn : b.length = n) (hA : RB w A b) (hc : n ≤ c) (hl : n ≤ 2000000) (h : IsPk b p) (hs : 0 ≤ f.src ∧ f.src ≤ 4294967295) (hd : 0 ≤ f.dst ∧ f.dst ≤ 4294967295) :
    Calls Try.prog 21 #[.slice A n c, flv f] w fun e w' => Hid (((GoodF f ∧ f.proto = p.fl.proto) ∧ ∃ X k, e = .returned (.tuple #[.slice X n k, .int .i64 0]) ∧ RB w' X (build (setFl p f))) ∨ (¬ (GoodF f ∧ f.proto = p.fl.proto) ∧ e = .returned (.tuple #[.slice none 0 0, .int .i64 9]))) ∧ Below w.heap.size w w' := by
  have HI := Lib.hid h
  have HN := Lib.hid hn
  clear h hn
  have hb0 : Below w.heap.size w (w.alloc (.cells #[.int .i64 f.proto, .int .u32 f.src, .int .i64 f.sp, .int .u32 f.dst, .int .i64 f.dp] 26)) := (Below.refl _ w).alloc (Nat.le_refl _) _
  have hF : Blk (w.alloc (.cells #[.int .i64 f.proto, .int .u32 f.src, .int .i64 f.sp, .int .u32 f.dst, .int .i64 f.dp] 26)) w.heap.size 26 (flc f) := Blk.new w _ _
  go_enter Try.func21, Try.ntmps21
  go_wp2_with fail
  generalize (w.alloc (.cells #[.int .i64 f.proto, .int .u32 f.src, .int .i64 f.sp, .int .u32 f.dst, .int .i64 f.dp] 26)) = wa at *
  have hfl := hF.lt
  (with_reducible refine (rparse_c b A n c wa HN.out (hA.below hb0) hc (by omega)).mono ?_)
  rintro e w1 ⟨q, B1, d1, E1, rfl, hpd, hbp, hcp, hb1⟩
  rcases hcp.out with ⟨hq, rfl⟩ | ⟨hq, -⟩
  rotate_left
  · exact absurd HI.out (hq p)
  obtain rfl : q = p := isPk_inj hq HI.out
  clear hcp hq
  obtain ⟨cs, hcs⟩ : ∃ cs : Array Value, #[.int .i64 q.tos, .int .i64 q.id, .int .i64 q.ttl, .int .i64 q.fl.proto, .int .u32 q.fl.src, .int .i64 q.fl.sp, .int .u32 q.fl.dst, .int .i64 q.fl.dp, .int .u32 q.seq, .int .u32 q.ack, .int .i64 q.flags, .int .i64 q.win, .slice B1 q.data.length d1] = cs := ⟨_, rfl⟩
  have hsz : cs.size = 13 := by rw [← hcs]; rfl
  have hsl : cs.toList.length = 13 := by rw [← hcs]; rfl
  have hone : ∀ v ∈ cs.toList, v.oneCell' = true := by rw [← hcs]; exact pkc_one q B1 d1
  have hst := store_new (P := Try.prog) w1 cs hsl hone
  have hN : Below w1.heap.size w1 ((w1.alloc (.cells #[.int .i64 0, .int .i64 0, .int .i64 0, .int .i64 0, .int .u32 0, .int .i64 0, .int .u32 0, .int .i64 0, .int .u32 0, .int .u32 0, .int .i64 0, .int .i64 0, .slice none 0 0] 52)).setRow w1.heap.size cs) := below_row (below_al (Below.refl _ w1) _) (Nat.le_refl _)
  have hBa : Blk ((w1.alloc (.cells #[.int .i64 0, .int .i64 0, .int .i64 0, .int .i64 0, .int .u32 0, .int .i64 0, .int .u32 0, .int .i64 0, .int .u32 0, .int .u32 0, .int .i64 0, .int .i64 0, .slice none 0 0] 52)).setRow w1.heap.size cs) w1.heap.size 52 (pkc q B1 d1) := by rw [← hcs]; exact (Blk.new w1 52 (pkc pk0 none 0)).row (pkc q B1 d1)
  have hpd2 := hpd.below hN
  have hCa := below_call hb1 hN
  have hza := hb1.size
  clear hone hN
  generalize hga : w1.heap.size = g2 at *
  go_upto_region 2 with (fail)
  generalize (w1.alloc (.cells #[.int .i64 0, .int .i64 0, .int .i64 0, .int .i64 0, .int .u32 0, .int .i64 0, .int .u32 0, .int .i64 0, .int .u32 0, .int .u32 0, .int .i64 0, .int .i64 0, .slice none 0 0] 52)).setRow g2 cs = w2 at *
  clear hcs hsz hsl hst hb1
  have hBn : ∀ ad, B1 = some ad → ad.block ≠ g2 := fun ad e => by have := (hbp.out ad e).2; omega
  have hw2 := below_call hb0 hCa
  have hF2 := hF.kept hCa
  have hg2w : w.heap.size ≠ g2 := by omega
  obtain ⟨c0, c1, c2, c3, c4, c5, c6, c7, c8, c9, c10, c11, c12⟩ := blk13 hBa
  obtain ⟨a0, a1, a2, a3, a4⟩ := blk5 hF2
  by_cases hgf : GoodF f
  rotate_left
  · have HBAD : Hid (¬ (GoodF f ∧ f.proto = q.fl.proto)) := fun h => hgf h.1
    go_wp2_with fail
    (with_reducible refine (fgood_bad f w2 hgf).mono ?_)
    rintro e w3 ⟨rfl, hb3⟩
    have hw3 := below_call hw2 hb3
    clear hgf c0 c1 c2 c3 c4 c5 c6 c7 c8 c9 c10 c11 c12 a0 a1 a2 a3 a4
    go_wp2_with fail
    go_ret2
    exact ⟨.inr ⟨HBAD.out, rfl⟩, hw3⟩
  go_wp2_with fail
  (with_reducible refine (fgood_good f w2 hgf).mono ?_)
  rintro e w3 ⟨rfl, hb3⟩
  have hw3 := below_call hw2 hb3
  have hF3 := hF2.kept hb3
  have hB3 := hBa.kept hb3
  have hpd3 := hpd2.below hb3
  have HGF := Lib.hid hgf
  clear hgf c0 c1 c2 c3 c4 c5 c6 c7 c8 c9 c10 c11 c12 a0 a1 a2 a3 a4 hBa hF2 hpd2 hb3
  obtain ⟨c0, c1, c2, c3, c4, c5, c6, c7, c8, c9, c10, c11, c12⟩ := blk13 hB3
  obtain ⟨a0, a1, a2, a3, a4⟩ := blk5 hF3
  by_cases hpr : f.proto = q.fl.proto
  rotate_left
  · have HBAD : Hid (¬ (GoodF f ∧ f.proto = q.fl.proto)) := fun h => hpr h.2
    have hpn : (f.proto != q.fl.proto) = true := by simp [hpr]
    clear hpr
    go_wp2_with fail
    go_ret2
    exact ⟨.inr ⟨HBAD.out, rfl⟩, hw3⟩
  have hpn : (f.proto != q.fl.proto) = false := by simp [hpr]
  have HPR := Lib.hid hpr
  have HGU := Lib.hid (setFl_good HI.out.1 HI.out.2.1 HGF.out hs hd hpr)
  have HL : Hid ((build (setFl q f)).length = n) := by
    show _ = _
    have e : (build (setFl q f)).length = (build q).length := by
      rw [build_len, build_len]
      show 20 + ((if f.proto = 17 then 8 else 20) + q.data.length) = _
      rw [hpr]
    rw [e, HI.out.2.2, HN.out]
  clear hpr
  obtain ⟨fs, hfs⟩ : ∃ fs : Array Value, #[.int .i64 f.proto, .int .u32 f.src, .int .i64 f.sp, .int .u32 f.dst, .int .i64 f.dp] = fs := ⟨_, rfl⟩
  have hsz : fs.size = 5 := by rw [← hfs]; rfl
  have hst0 := run_storeCells_at (P := Try.prog) g2 3 52 fs.toList 0 (pkc q B1 d1).toArray w3 hB3 (by rw [← hfs]; simp) (by rw [← hfs]; simp [Value.oneCell'])
  obtain ⟨w5, hst, hB5, hpd5, hw5⟩ : ∃ w5, (storeCells ⟨g2, 3, none⟩ fs.toList).run Try.prog w3 = .ok () w5 ∧ Blk w5 g2 52 ((pkc q B1 d1).take 3 ++ fs.toList ++ (pkc q B1 d1).drop 8) ∧ PkD w5 B1 d1 (setFl q f) ∧ Below w.heap.size w w5 := by
    refine ⟨_, hst0, ?_, ⟨hpd3.1, rb_row_far hpd3.2 hBn⟩, below_row hw3 (by omega)⟩
    have h3 := Blk.row hB3 ((pkc q B1 d1).take 3 ++ fs.toList ++ (pkc q B1 d1).drop 8)
    have hsl : fs.toList.length = 5 := by rw [← hfs]; rfl
    simpa [hsl] using h3
  clear hst0
  replace hB5 : Blk w5 g2 52 (pkc (setFl q f) B1 d1) := by rw [← hfs] at hB5; exact hB5
  go_upto_region 7 with (fail)
  clear hst hfs hsz hpn hB3 hpd3 hF3 hw3 c0 c1 c2 c3 c4 c5 c6 c7 c8 c9 c10 c11 c12 a0 a1 a2 a3 a4
  generalize hr : setFl q f = r at *
  have HR0 := Lib.hid hr
  clear hr
  obtain ⟨c0, c1, c2, c3, c4, c5, c6, c7, c8, c9, c10, c11, c12⟩ := blk13 hB5
  go_wp2_with fail
  (with_reducible refine (rbuild_n r B1 d1 w5 hpd5 HGU.out.1 HGU.out.2).mono ?_)
  rintro e w6 ⟨X, k, rfl, hk, hR, -, hb6⟩
  rw [HL.out]
  have hw6 := below_call hw5 hb6
  clear c0 c1 c2 c3 c4 c5 c6 c7 c8 c9 c10 c11 c12
  go_wp2_with fail
  go_ret2
  exact ⟨.inl ⟨⟨HGF.out, HPR.out⟩, X, k, rfl, by rw [HR0.out]; exact hR⟩, hw6⟩
end Go.Proofs.Ytbhdjalpkecbeaa
namespace Go.Proofs.Ytbhdjalpkecbeaa
set_option linter.unusedVariables false
set_option linter.unusedSimpArgs false
open Go.RowKit

/-- An error by its number. -/
def ev (i : Nat) : Value := if i = 0 then .nilIface else er i
theorem ev0 : Value.nilIface = ev 0 := rfl
theorem ev_er (i : Nat) (h : i ≠ 0) : er (i : Int) = ev i := by unfold ev; rw [if_neg h]
theorem num_ev (i : Nat) (w : World) : Calls Try.prog 13 #[ev i] w fun e w' => e = .returned (.int .i64 (i : Int)) ∧ w' = w := by
  by_cases h : i = 0
  · subst h; exact num_nil w
  · rw [← ev_er i h]; exact num_er i (by omega) w
open Classical in
noncomputable def sideR (f : Pk → Int → Int → Pk) (b : List UInt8) (a port : Int) : List UInt8 := if IsPk b (opn b) ∧ 0 ≤ port ∧ port ≤ 65535 then build (f (opn b) a port) else []
open Classical in
noncomputable def sideE (b : List UInt8) (port : Int) : Nat := if IsPk b (opn b) then (if 0 ≤ port ∧ port ≤ 65535 then 0 else 9) else 2
open Classical in
noncomputable def bothR (b : List UInt8) (f : Fl) : List UInt8 := if IsPk b (opn b) ∧ GoodF f ∧ f.proto = (opn b).fl.proto then build (setFl (opn b) f) else []
open Classical in
noncomputable def bothE (b : List UInt8) (f : Fl) : Nat := if IsPk b (opn b) then (if GoodF f ∧ f.proto = (opn b).fl.proto then 0 else 9) else 2
theorem rb_nil (w : World) : RB w none [] := fun j u hu => by simp at hu
theorem own_nil (w : World) (base : Nat) : w.ownsRow base 5 1 (.slice none 0 0) 0 (([] : List UInt8).map bv) := World.ownsRow_nil _ _ _ _
theorem setFl_len {p : Pk} {f : Fl} (h : f.proto = p.fl.proto) : (build (setFl p f)).length = (build p).length := by
  rw [build_len, build_len]
  show 20 + ((if f.proto = 17 then 8 else 20) + p.data.length) = _
  rw [h]
def UPost (w : World) (R : List UInt8) (i : Nat) (e : Ending) (w' : World) : Prop := ∃ X m k, e = .returned (.tuple #[.slice X m k, ev i]) ∧ m ≤ k ∧ m ≤ 1500 ∧ Hid (R.length = m) ∧ RB w' X R ∧ Hid (w'.ownsRow w.heap.size 5 1 (.slice X m k) m (R.map bv)) ∧ Below w.heap.size w w'
def VPost (w : World) (R : List UInt8) (i : Nat) (e : Ending) (w' : World) : Prop := ∃ X m k, e = .returned (.tuple #[.slice X m k, .int .i64 (i : Int)]) ∧ Hid (R.length = m) ∧ RB w' X R ∧ Below w.heap.size w w'
theorem source_u (b : List UInt8) (A : Option Addr) (n c : Nat) (a port : Int) (w : World) (hn : b.length = n) (hA : RB w A b) (hc : n ≤ c) (ha : 0 ≤ a ∧ a ≤ 4294967295) :
    Calls Try.prog 18 #[.slice A n c, .int .u32 a, .int .i64 port] w (UPost w (sideR setSrc b a port) (sideE b port)) := by
  by_cases h : IsPk b (opn b)
  · have hsh := (isPk_shape h).2.1
    by_cases hp : 0 ≤ port ∧ port ≤ 65535
    · have e1 : sideR setSrc b a port = build (setSrc (opn b) a port) := by unfold sideR; rw [if_pos ⟨h, hp⟩]
      have e2 : sideE b port = 0 := by unfold sideE; rw [if_pos h, if_pos hp]
      rw [e1, e2]
      have hl : (build (setSrc (opn b) a port)).length = n := by rw [set_len_src, h.2.2, hn]
      refine (source_n b (opn b) A n c a port w hn hA hc h ha hp).mono ?_
      rintro e w' ⟨X, k, rfl, hk, hR, hO, hb⟩
      exact ⟨X, n, k, rfl, hk, by omega, hl, hR, hO, hb⟩
    · have e1 : sideR setSrc b a port = [] := by unfold sideR; rw [if_neg (fun x => hp x.2)]
      have e2 : sideE b port = 9 := by unfold sideE; rw [if_pos h, if_neg hp]
      rw [e1, e2]
      refine (source_port b (opn b) A n c a port w hn hA hc h (by omega)).mono ?_
      rintro e w' ⟨rfl, hb⟩
      exact ⟨none, 0, 0, rfl, Nat.le_refl _, by omega, rfl, rb_nil _, own_nil _ _, hb⟩
  · have e1 : sideR setSrc b a port = [] := by unfold sideR; rw [if_neg (fun x => h x.1)]
    have e2 : sideE b port = 2 := by unfold sideE; rw [if_neg h]
    rw [e1, e2]
    refine (source_no b A n c a port w hn hA hc (fun q hq => h (isPk_any hq))).mono ?_
    rintro e w' ⟨rfl, hb⟩
    exact ⟨none, 0, 0, rfl, Nat.le_refl _, by omega, rfl, rb_nil _, own_nil _ _, hb⟩
theorem rsource_u (b : List UInt8) (A : Option Addr) (n c : Nat) (a port : Int) (w : World) (hn : b.length = n) (hA : RB w A b) (hc : n ≤ c) (hl : n ≤ 2000000) (ha : 0 ≤ a ∧ a ≤ 4294967295) :
    Calls Try.prog 19 #[.slice A n c, .int .u32 a, .int .i64 port] w (VPost w (sideR setSrc b a port) (sideE b port)) := by
  by_cases h : IsPk b (opn b)
  · refine (rsource_yes b (opn b) A n c a port w hn hA hc hl h ha).mono ?_
    rintro e w' ⟨hh, hb⟩
    rcases hh.out with ⟨hp, X, k, rfl, hR⟩ | ⟨hp, rfl⟩
    · have e1 : sideR setSrc b a port = build (setSrc (opn b) a port) := by unfold sideR; rw [if_pos ⟨h, hp⟩]
      have e2 : sideE b port = 0 := by unfold sideE; rw [if_pos h, if_pos hp]
      have hl : (build (setSrc (opn b) a port)).length = n := by rw [set_len_src, h.2.2, hn]
      rw [e1, e2]
      exact ⟨X, n, k, rfl, hl, hR, hb⟩
    · have hp' : ¬ (0 ≤ port ∧ port ≤ 65535) := by omega
      have e1 : sideR setSrc b a port = [] := by unfold sideR; rw [if_neg (fun x => hp' x.2)]
      have e2 : sideE b port = 9 := by unfold sideE; rw [if_pos h, if_neg hp']
      rw [e1, e2]
      exact ⟨none, 0, 0, rfl, rfl, rb_nil _, hb⟩
  · have e1 : sideR setSrc b a port = [] := by unfold sideR; rw [if_neg (fun x => h x.1)]
    have e2 : sideE b port = 2 := by unfold sideE; rw [if_neg h]
    rw [e1, e2]
    refine (rsource_no b A n c a port w hn hA hc hl (fun q hq => h (isPk_any hq))).mono ?_
    rintro e w' ⟨rfl, hb⟩
    exact ⟨none, 0, 0, rfl, rfl, rb_nil _, hb⟩
theorem dest_u (b : List UInt8) (A : Option Addr) (n c : Nat) (a port : Int) (w : World) (hn : b.length = n) (hA : RB w A b) (hc : n ≤ c) (ha : 0 ≤ a ∧ a ≤ 4294967295) :
    Calls Try.prog 10 #[.slice A n c, .int .u32 a, .int .i64 port] w (UPost w (sideR setDst b a port) (sideE b port)) := by
  by_cases h : IsPk b (opn b)
  · have hsh := (isPk_shape h).2.1
    by_cases hp : 0 ≤ port ∧ port ≤ 65535
    · have e1 : sideR setDst b a port = build (setDst (opn b) a port) := by unfold sideR; rw [if_pos ⟨h, hp⟩]
      have e2 : sideE b port = 0 := by unfold sideE; rw [if_pos h, if_pos hp]
      rw [e1, e2]
      have hl : (build (setDst (opn b) a port)).length = n := by rw [set_len_dst, h.2.2, hn]
      refine (dest_n b (opn b) A n c a port w hn hA hc h ha hp).mono ?_
      rintro e w' ⟨X, k, rfl, hk, hR, hO, hb⟩
      exact ⟨X, n, k, rfl, hk, by omega, hl, hR, hO, hb⟩
    · have e1 : sideR setDst b a port = [] := by unfold sideR; rw [if_neg (fun x => hp x.2)]
      have e2 : sideE b port = 9 := by unfold sideE; rw [if_pos h, if_neg hp]
      rw [e1, e2]
      refine (dest_port b (opn b) A n c a port w hn hA hc h (by omega)).mono ?_
      rintro e w' ⟨rfl, hb⟩
      exact ⟨none, 0, 0, rfl, Nat.le_refl _, by omega, rfl, rb_nil _, own_nil _ _, hb⟩
  · have e1 : sideR setDst b a port = [] := by unfold sideR; rw [if_neg (fun x => h x.1)]
    have e2 : sideE b port = 2 := by unfold sideE; rw [if_neg h]
    rw [e1, e2]
    refine (dest_no b A n c a port w hn hA hc (fun q hq => h (isPk_any hq))).mono ?_
    rintro e w' ⟨rfl, hb⟩
    exact ⟨none, 0, 0, rfl, Nat.le_refl _, by omega, rfl, rb_nil _, own_nil _ _, hb⟩
theorem rdest_u (b : List UInt8) (A : Option Addr) (n c : Nat) (a port : Int) (w : World) (hn : b.length = n) (hA : RB w A b) (hc : n ≤ c) (hl : n ≤ 2000000) (ha : 0 ≤ a ∧ a ≤ 4294967295) :
    Calls Try.prog 20 #[.slice A n c, .int .u32 a, .int .i64 port] w (VPost w (sideR setDst b a port) (sideE b port)) := by
  by_cases h : IsPk b (opn b)
  · refine (rdest_yes b (opn b) A n c a port w hn hA hc hl h ha).mono ?_
    rintro e w' ⟨hh, hb⟩
    rcases hh.out with ⟨hp, X, k, rfl, hR⟩ | ⟨hp, rfl⟩
    · have e1 : sideR setDst b a port = build (setDst (opn b) a port) := by unfold sideR; rw [if_pos ⟨h, hp⟩]
      have e2 : sideE b port = 0 := by unfold sideE; rw [if_pos h, if_pos hp]
      have hl : (build (setDst (opn b) a port)).length = n := by rw [set_len_dst, h.2.2, hn]
      rw [e1, e2]
      exact ⟨X, n, k, rfl, hl, hR, hb⟩
    · have hp' : ¬ (0 ≤ port ∧ port ≤ 65535) := by omega
      have e1 : sideR setDst b a port = [] := by unfold sideR; rw [if_neg (fun x => hp' x.2)]
      have e2 : sideE b port = 9 := by unfold sideE; rw [if_pos h, if_neg hp']
      rw [e1, e2]
      exact ⟨none, 0, 0, rfl, rfl, rb_nil _, hb⟩
  · have e1 : sideR setDst b a port = [] := by unfold sideR; rw [if_neg (fun x => h x.1)]
    have e2 : sideE b port = 2 := by unfold sideE; rw [if_neg h]
    rw [e1, e2]
    refine (rdest_no b A n c a port w hn hA hc hl (fun q hq => h (isPk_any hq))).mono ?_
    rintro e w' ⟨rfl, hb⟩
    exact ⟨none, 0, 0, rfl, rfl, rb_nil _, hb⟩
theorem both_u (b : List UInt8) (f : Fl) (A : Option Addr) (n c : Nat) (w : World) (hn : b.length = n) (hA : RB w A b) (hc : n ≤ c) (hs : 0 ≤ f.src ∧ f.src ≤ 4294967295) (hd : 0 ≤ f.dst ∧ f.dst ≤ 4294967295) :
    Calls Try.prog 16 #[.slice A n c, flv f] w (UPost w (bothR b f) (bothE b f)) := by
  by_cases h : IsPk b (opn b)
  · have hsh := (isPk_shape h).2.1
    by_cases hp : GoodF f ∧ f.proto = (opn b).fl.proto
    · have e1 : bothR b f = build (setFl (opn b) f) := by unfold bothR; rw [if_pos ⟨h, hp⟩]
      have e2 : bothE b f = 0 := by unfold bothE; rw [if_pos h, if_pos hp]
      rw [e1, e2]
      have hl : (build (setFl (opn b) f)).length = n := by rw [setFl_len hp.2, h.2.2, hn]
      refine (both_good b (opn b) f A n c w hn hA hc h hp.1 hp.2 hs hd).mono ?_
      rintro e w' ⟨X, k, rfl, hk, hR, hO, hb⟩
      exact ⟨X, n, k, rfl, hk, by omega, hl, hR, hO, hb⟩
    · have e1 : bothR b f = [] := by unfold bothR; rw [if_neg (fun x => hp x.2)]
      have e2 : bothE b f = 9 := by unfold bothE; rw [if_pos h, if_neg hp]
      rw [e1, e2]
      refine (both_bad b (opn b) f A n c w hn hA hc h hp).mono ?_
      rintro e w' ⟨rfl, hb⟩
      exact ⟨none, 0, 0, rfl, Nat.le_refl _, by omega, rfl, rb_nil _, own_nil _ _, hb⟩
  · have e1 : bothR b f = [] := by unfold bothR; rw [if_neg (fun x => h x.1)]
    have e2 : bothE b f = 2 := by unfold bothE; rw [if_neg h]
    rw [e1, e2]
    refine (both_no b f A n c w hn hA hc (fun q hq => h (isPk_any hq))).mono ?_
    rintro e w' ⟨rfl, hb⟩
    exact ⟨none, 0, 0, rfl, Nat.le_refl _, by omega, rfl, rb_nil _, own_nil _ _, hb⟩
theorem rboth_u (b : List UInt8) (f : Fl) (A : Option Addr) (n c : Nat) (w : World) (hn : b.length = n) (hA : RB w A b) (hc : n ≤ c) (hl : n ≤ 2000000) (hs : 0 ≤ f.src ∧ f.src ≤ 4294967295) (hd : 0 ≤ f.dst ∧ f.dst ≤ 4294967295) :
    Calls Try.prog 21 #[.slice A n c, flv f] w (VPost w (bothR b f) (bothE b f)) := by
  by_cases h : IsPk b (opn b)
  · refine (rboth_yes b (opn b) f A n c w hn hA hc hl h hs hd).mono ?_
    rintro e w' ⟨hh, hb⟩
    rcases hh.out with ⟨hp, X, k, rfl, hR⟩ | ⟨hp, rfl⟩
    · have e1 : bothR b f = build (setFl (opn b) f) := by unfold bothR; rw [if_pos ⟨h, hp⟩]
      have e2 : bothE b f = 0 := by unfold bothE; rw [if_pos h, if_pos hp]
      have hl : (build (setFl (opn b) f)).length = n := by rw [setFl_len hp.2, h.2.2, hn]
      rw [e1, e2]
      exact ⟨X, n, k, rfl, hl, hR, hb⟩
    · have e1 : bothR b f = [] := by unfold bothR; rw [if_neg (fun x => hp x.2)]
      have e2 : bothE b f = 9 := by unfold bothE; rw [if_pos h, if_neg hp]
      rw [e1, e2]
      exact ⟨none, 0, 0, rfl, rfl, rb_nil _, hb⟩
  · have e1 : bothR b f = [] := by unfold bothR; rw [if_neg (fun x => h x.1)]
    have e2 : bothE b f = 2 := by unfold bothE; rw [if_neg h]
    rw [e1, e2]
    refine (rboth_no b f A n c w hn hA hc hl (fun q hq => h (isPk_any hq))).mono ?_
    rintro e w' ⟨rfl, hb⟩
    exact ⟨none, 0, 0, rfl, rfl, rb_nil _, hb⟩
end Go.Proofs.Ytbhdjalpkecbeaa
