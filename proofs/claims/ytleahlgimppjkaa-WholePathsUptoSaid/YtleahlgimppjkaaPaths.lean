/- The walks of WholePaths' helpers: Reverse, packetOf, the fixed fact. -/
import Derived.Test.YtleahlgimppjkaaUnwrap
import Derived.Test.YtleahlgimppjkaaRwBoth
import Derived.Test.YtleahlgimppjkaaRwLk
import Derived.Test.YtleahlgimppjkaaPktOpen
namespace Go.Proofs.Ytleahlgimppjkaa
set_option linter.unusedVariables false
set_option linter.unusedSimpArgs false
open Go.RowKit

def rev (f : Fl) : Fl := ⟨f.proto, f.dst, f.dp, f.src, f.sp⟩
theorem isW_of {b : List UInt8} {p : Pk} (h : IsPk b p) (hl : b.length ≤ 1480) {src dst : Int} (hs : U32 src) (hd : U32 dst) : IsW (wrapB src dst b) src dst b := ⟨⟨isPk_any h, hl⟩, hs, hd, rfl⟩
theorem u32i {a : Int} (h : 0 ≤ a ∧ a ≤ 4294967295) : U32 a := by unfold U32; exact h
theorem pbuild_n (p : Pk) (B : Option Addr) (d : Nat) (w : World) (hd : PkD w B d p) (hg : GoodP p) (hu : U32s p) :
    Calls Try.prog 15 #[pkv p B d] w fun e w' => ∃ X k, e = .returned (.tuple #[.slice X (build p).length k, .nilIface]) ∧ (build p).length ≤ k ∧ RB w' X (build p) ∧ Below w.heap.size w w' := by
  refine (pbuild_good p B d w hd hg hu).mono ?_
  rintro e w' ⟨v, rfl, hO, hb⟩
  obtain ⟨X, k, rfl, hk, hR, -⟩ := own_form hO
  exact ⟨X, k, rfl, hk, hR, hb⟩
theorem wrap_n (src dst : Int) (b : List UInt8) (p : Pk) (A : Option Addr) (n m c : Nat) (w : World) (hs : U32 src) (hd : U32 dst) (hn : b.length = n) (hA : RB w A b) (hc : n ≤ c) (h : IsPk b p) (hl : n ≤ 1480) (hm : m = 20 + n) :
    Calls Try.prog 7 #[.int .u32 src, .int .u32 dst, .slice A n c] w fun e w' => ∃ X k, e = .returned (.tuple #[.slice X m k, .nilIface]) ∧ m ≤ k ∧ RB w' X (wrapB src dst b) ∧ Below w.heap.size w w' := by
  subst hm
  refine (wrap_good src dst b p A n c w hs hd hn hA hc h hl).mono ?_
  rintro e w' ⟨v, rfl, hO, hb⟩
  obtain ⟨X, k, rfl, hk, hR, -⟩ := own_form hO
  exact ⟨X, k, rfl, hk, hR, hb⟩
theorem unwrap_n (src dst : Int) (b : List UInt8) (p : Pk) (A : Option Addr) (n m c : Nat) (w : World) (hs : U32 src) (hd : U32 dst) (hn : b.length = n) (h : IsPk b p) (hl : n ≤ 1480) (hm : m = 20 + n) (hA : RB w A (wrapB src dst b)) (hc : m ≤ c) :
    Calls Try.prog 9 #[.slice A m c] w fun e w' => ∃ X k, e = .returned (.tuple #[.int .u32 src, .int .u32 dst, .slice X n k, .nilIface]) ∧ n ≤ k ∧ RB w' X b ∧ Below w.heap.size w w' := by
  have hW := isW_of h (by omega) hs hd
  obtain ⟨l1, -, -, l4, -, -, l7, l8⟩ := isW_shape hW
  have hml : (wrapB src dst b).length = m := by rw [wrapB_len, hn, hm]
  refine (unwrap_any (wrapB src dst b) A m c w hml hA hc (by omega)).mono ?_
  rintro e w' ⟨⟨-, v, rfl, hO⟩ | ⟨hno, rfl⟩, hb⟩
  · rw [← l7, ← l8] at *
    rw [hml, ← l4, show m - 20 = n by omega] at hO
    obtain ⟨X, k, rfl, hk, hR, -⟩ := own_form hO
    exact ⟨X, k, rfl, hk, hR, hb⟩
  · exact absurd (isWb_of hW) hno
theorem like_yes (a b : List UInt8) (A B : Option Addr) (n c m d : Nat) (w : World) (hn : a.length = n) (hm : b.length = m) (hA : RB w A a) (hB : RB w B b) (hc : n ≤ c) (hd : m ≤ d) (hn2 : n ≤ 2000000) (hm2 : m ≤ 2000000) (h : LikeP a b) :
    Calls Try.prog 11 #[.slice A n c, .slice B m d] w fun e w' => e = .returned (.bool true) ∧ Below w.heap.size w w' := by
  refine (like_any a b A B n c m d w hn hm hA hB hc hd hn2 hm2).mono ?_
  rintro e w' ⟨r, rfl, hr, hb⟩
  rw [hr.out.2 h]
  exact ⟨rfl, hb⟩
set_option maxHeartbeats 1600000 in
theorem packetOf_yes (b : List UInt8) (p : Pk) (A : Option Addr) (n c : Nat) (w : World) (hn : b.length = n) (hA : RB w A b) (hc : n ≤ c) (h : IsPk b p) :
    Calls Try.prog 8 #[.slice A n c] w fun e w' => e = .returned (.bool true) ∧ Below w.heap.size w w' := by
  go_enter Try.func8, Try.ntmps8
  go_wp2_with fail
  (with_reducible refine (flow_good b p A n c w hn hA hc h).mono ?_)
  rintro e w1 ⟨rfl, hb1⟩
  clear h
  generalize p.fl = f at ⊢
  obtain ⟨fs, hfs⟩ : ∃ fs : Array Value, #[.int .i64 f.proto, .int .u32 f.src, .int .i64 f.sp, .int .u32 f.dst, .int .i64 f.dp] = fs := ⟨_, rfl⟩
  have hsz : fs.size = 5 := by rw [← hfs]; rfl
  have hst := store5n (P := Try.prog) w1 fs (by rw [← hfs]; rfl) (by rw [← hfs]; exact fl_one f)
  have hF8 : Blk ((w1.alloc (.cells #[.int .i64 0, .int .u32 0, .int .i64 0, .int .u32 0, .int .i64 0] 25)).setRow w1.heap.size fs) w1.heap.size 25 (flc f) := by rw [← hfs]; exact (Blk.new w1 25 (flc fl0)).row _
  have hN8 : Below w1.heap.size w1 ((w1.alloc (.cells #[.int .i64 0, .int .u32 0, .int .i64 0, .int .u32 0, .int .i64 0] 25)).setRow w1.heap.size fs) := below_row (below_al (Below.refl _ w1) _) (Nat.le_refl _)
  generalize hgz8 : w1.heap.size = g8 at *
  go_upto_region 2 with (fail)
  generalize (w1.alloc (.cells #[.int .i64 0, .int .u32 0, .int .i64 0, .int .u32 0, .int .i64 0] 25)).setRow g8 fs = w2 at *
  clear hst hfs hsz
  go_wp2_with fail
  go_ret
  exact ⟨rfl, below_call hb1 (by rw [hgz8]; exact hN8)⟩
set_option maxHeartbeats 1600000 in
theorem packetOf_no (b : List UInt8) (A : Option Addr) (n c : Nat) (w : World) (hn : b.length = n) (hA : RB w A b) (hc : n ≤ c) (h : ∀ p, ¬ IsPk b p) :
    Calls Try.prog 8 #[.slice A n c] w fun e w' => e = .returned (.bool false) ∧ Below w.heap.size w w' := by
  go_enter Try.func8, Try.ntmps8
  go_wp2_with fail
  (with_reducible refine (flow_bad b A n c w hn hA hc h).mono ?_)
  rintro e w1 ⟨rfl, hb1⟩
  clear h
  generalize fl0 = f at ⊢
  obtain ⟨fs, hfs⟩ : ∃ fs : Array Value, #[.int .i64 f.proto, .int .u32 f.src, .int .i64 f.sp, .int .u32 f.dst, .int .i64 f.dp] = fs := ⟨_, rfl⟩
  have hsz : fs.size = 5 := by rw [← hfs]; rfl
  have hst := store5n (P := Try.prog) w1 fs (by rw [← hfs]; rfl) (by rw [← hfs]; exact fl_one f)
  have hF8 : Blk ((w1.alloc (.cells #[.int .i64 0, .int .u32 0, .int .i64 0, .int .u32 0, .int .i64 0] 25)).setRow w1.heap.size fs) w1.heap.size 25 (flc f) := by rw [← hfs]; exact (Blk.new w1 25 (flc fl0)).row _
  have hN8 : Below w1.heap.size w1 ((w1.alloc (.cells #[.int .i64 0, .int .u32 0, .int .i64 0, .int .u32 0, .int .i64 0] 25)).setRow w1.heap.size fs) := below_row (below_al (Below.refl _ w1) _) (Nat.le_refl _)
  generalize hgz8 : w1.heap.size = g8 at *
  go_upto_region 2 with (fail)
  generalize (w1.alloc (.cells #[.int .i64 0, .int .u32 0, .int .i64 0, .int .u32 0, .int .i64 0] 25)).setRow g8 fs = w2 at *
  clear hst hfs hsz
  go_wp2_with fail
  go_ret
  exact ⟨rfl, below_call hb1 (by rw [hgz8]; exact hN8)⟩
set_option maxHeartbeats 1600000 in
theorem reverse_any (f : Fl) (w : World) :
    Calls Try.prog 14 #[flv f] w fun e w' => e = .returned (flv (rev f)) ∧ Below w.heap.size w w' := by
  have hb0 : Below w.heap.size w ((w.alloc (.cells #[.int .i64 f.proto, .int .u32 f.src, .int .i64 f.sp, .int .u32 f.dst, .int .i64 f.dp] 25)).alloc (.cells #[.int .i64 0, .int .u32 0, .int .i64 0, .int .u32 0, .int .i64 0] 25)) := below_al (below_al (Below.refl _ w) _) _
  have e1 : (w.alloc (.cells #[.int .i64 f.proto, .int .u32 f.src, .int .i64 f.sp, .int .u32 f.dst, .int .i64 f.dp] 25)).heap.size = w.heap.size + 1 := by simp
  have hB0 : Blk ((w.alloc (.cells #[.int .i64 f.proto, .int .u32 f.src, .int .i64 f.sp, .int .u32 f.dst, .int .i64 f.dp] 25)).alloc (.cells #[.int .i64 0, .int .u32 0, .int .i64 0, .int .u32 0, .int .i64 0] 25)) w.heap.size 25 (flc f) := (Blk.new w 25 (flc f)).alloc _
  have hB1 : Blk ((w.alloc (.cells #[.int .i64 f.proto, .int .u32 f.src, .int .i64 f.sp, .int .u32 f.dst, .int .i64 f.dp] 25)).alloc (.cells #[.int .i64 0, .int .u32 0, .int .i64 0, .int .u32 0, .int .i64 0] 25)) (w.heap.size + 1) 25 (flc fl0) := by rw [← e1]; exact Blk.new _ _ _
  go_enter Try.func14, Try.ntmps14
  go_upto_region 1 with (fail)
  clear e1
  generalize (w.alloc (.cells #[.int .i64 f.proto, .int .u32 f.src, .int .i64 f.sp, .int .u32 f.dst, .int .i64 f.dp] 25)).alloc (.cells #[.int .i64 0, .int .u32 0, .int .i64 0, .int .u32 0, .int .i64 0] 25) = wa at *
  have hl1 := hB1.lt
  obtain ⟨a0, a1, a2, a3, a4⟩ := blk5 hB0
  obtain ⟨fs, hfs⟩ : ∃ fs : Array Value, #[.int .i64 f.proto, .int .u32 f.src, .int .i64 f.sp, .int .u32 f.dst, .int .i64 f.dp] = fs := ⟨_, rfl⟩
  have hsz : fs.size = 5 := by rw [← hfs]; rfl
  have hst := store5n (P := Try.prog) wa fs (by rw [← hfs]; rfl) (by rw [← hfs]; exact fl_one f)
  have hF3 : Blk ((wa.alloc (.cells #[.int .i64 0, .int .u32 0, .int .i64 0, .int .u32 0, .int .i64 0] 25)).setRow wa.heap.size fs) wa.heap.size 25 (flc f) := by rw [← hfs]; exact (Blk.new wa 25 (flc fl0)).row _
  have hN3 : Below wa.heap.size wa ((wa.alloc (.cells #[.int .i64 0, .int .u32 0, .int .i64 0, .int .u32 0, .int .i64 0] 25)).setRow wa.heap.size fs) := below_row (below_al (Below.refl _ wa) _) (Nat.le_refl _)
  generalize hgz3 : wa.heap.size = g3 at *
  go_upto_region 2 with (fail)
  generalize (wa.alloc (.cells #[.int .i64 0, .int .u32 0, .int .i64 0, .int .u32 0, .int .i64 0] 25)).setRow g3 fs = w2 at *
  clear hst hfs hsz
  have hB0 := hB0.kept (by rw [hgz3]; exact hN3)
  have hB1 := hB1.kept (by rw [hgz3]; exact hN3)
  have hb2 : Below w.heap.size w w2 := hb0.trans (hN3.mono (by omega))
  obtain ⟨a0, a1, a2, a3, a4⟩ := blk5 hB0
  obtain ⟨b0, b1_, b2_, b3, b4_⟩ := blk5 hF3
  have f1 := hF3.frozen 1
  have f2 := hF3.frozen 2
  have f3 := hF3.frozen 3
  have f4 := hF3.frozen 4
  have hn0 : w.heap.size ≠ g3 := by omega
  have hn1 : some (w.heap.size + 1) ≠ some g3 := by simp; omega
  have hn2 : w.heap.size + 1 ≠ g3 := by omega
  go_upto_region 6 with (fail)
  have hF4 : Blk ((((w2.setCell ⟨g3, 1, none⟩ (.int .u32 f.dst)).setCell ⟨g3, 3, none⟩ (.int .u32 f.src)).setCell ⟨g3, 2, none⟩ (.int .i64 f.dp)).setCell ⟨g3, 4, none⟩ (.int .i64 f.sp)) g3 25 (flc (rev f)) := (((hF3.set_ 1 _).set_ 3 _).set_ 2 _).set_ 4 _
  have hb4 : Below w.heap.size w ((((w2.setCell ⟨g3, 1, none⟩ (.int .u32 f.dst)).setCell ⟨g3, 3, none⟩ (.int .u32 f.src)).setCell ⟨g3, 2, none⟩ (.int .i64 f.dp)).setCell ⟨g3, 4, none⟩ (.int .i64 f.sp)) := (((hb2.setCell (show w.heap.size ≤ g3 by omega) _).setCell (show w.heap.size ≤ g3 by omega) _).setCell (show w.heap.size ≤ g3 by omega) _).setCell (show w.heap.size ≤ g3 by omega) _
  have hB4 : Blk ((((w2.setCell ⟨g3, 1, none⟩ (.int .u32 f.dst)).setCell ⟨g3, 3, none⟩ (.int .u32 f.src)).setCell ⟨g3, 2, none⟩ (.int .i64 f.dp)).setCell ⟨g3, 4, none⟩ (.int .i64 f.sp)) (w.heap.size + 1) 25 (flc fl0) := (((hB1.grown (grown_set _ g3 _ _) hn1).grown (grown_set _ g3 _ _) hn1).grown (grown_set _ g3 _ _) hn1).grown (grown_set _ g3 _ _) hn1
  generalize (((w2.setCell ⟨g3, 1, none⟩ (.int .u32 f.dst)).setCell ⟨g3, 3, none⟩ (.int .u32 f.src)).setCell ⟨g3, 2, none⟩ (.int .i64 f.dp)).setCell ⟨g3, 4, none⟩ (.int .i64 f.sp) = w4 at *
  clear hF3 hB0 hB1 a0 a1 a2 a3 a4 b0 b1_ b2_ b3 b4_ f1 f2 f3 f4 hb2 hN3
  obtain ⟨b0, b1_, b2_, b3, b4_⟩ := blk5 hF4
  obtain ⟨fs, hfs⟩ : ∃ fs : Array Value, #[.int .i64 (rev f).proto, .int .u32 (rev f).src, .int .i64 (rev f).sp, .int .u32 (rev f).dst, .int .i64 (rev f).dp] = fs := ⟨_, rfl⟩
  have hsz : fs.size = 5 := by rw [← hfs]; rfl
  have hst := store5 (P := Try.prog) fs hB4 rfl (by rw [← hfs]; rfl) (by rw [← hfs]; exact fl_one (rev f))
  have hR : Blk (w4.setRow (w.heap.size + 1) fs) (w.heap.size + 1) 25 (flc (rev f)) := by rw [← hfs]; exact hB4.row _
  have hb5 : Below w.heap.size w (w4.setRow (w.heap.size + 1) fs) := below_row hb4 (by omega)
  have hfs' : #[.int .i64 f.proto, .int .u32 f.dst, .int .i64 f.dp, .int .u32 f.src, .int .i64 f.sp] = fs := hfs
  go_wp2_with fail
  generalize w4.setRow (w.heap.size + 1) fs = w5 at *
  obtain ⟨z0, z1, z2, z3, z4⟩ := blk5 hR
  refine bodyPost_ret (by simp [results, Try.results14, go_sem, z0, z1, z2, z3, z4]; try rfl) rfl ?_
  exact ⟨rfl, hb5⟩
def exW : Pk := ⟨0, 0, 9, ⟨17, 167837697, 7, 134744072, 53⟩, 0, 0, 0, 0, []⟩
theorem exW_good : GoodP exW := by
  refine ⟨⟨.inr rfl, ?_, ?_⟩, ?_, ?_, ?_, ?_, ?_, fun _ => ⟨rfl, rfl, rfl, rfl⟩, ?_⟩ <;> simp [exW]
theorem exW_u32 : U32s exW := by simp [U32s, exW]
set_option maxRecDepth 100000 in
set_option maxHeartbeats 6400000 in
theorem paths_any (w : World) : Calls Try.prog 4 #[] w fun e w' => e = .returned (.bool true) ∧ Below w.heap.size w w' := by
  have hl : (build exW).length = 28 := by rw [build_len]; rfl
  have hI : IsPk (build exW) exW := ⟨exW_good, exW_u32, rfl⟩
  have hI1 : IsPk (build (setSrc exW 16843009 1024)) (setSrc exW 16843009 1024) := isPk_src hI (by omega) (by omega)
  have hl1 : (build (setSrc exW 16843009 1024)).length = 28 := by rw [set_len_src, hl]
  have hne : ¬ build (setSrc exW 16843009 1024) = build exW := fun e => by
    rw [e] at hI1
    have h := isPk_inj hI1 hI
    have h2 : (setSrc exW 16843009 1024).fl.src = exW.fl.src := by rw [h]
    simp [setSrc, exW] at h2
  have hback : setSrc (setSrc exW 16843009 1024) 167837697 7 = exW := rfl
  have hD : PkD w none 0 exW := ⟨Nat.le_refl _, fun j u hu => by simp [exW] at hu⟩
  have hcall : Calls Try.prog 15 #[.agg #[.int .i64 0, .int .i64 0, .int .i64 9, .int .i64 17, .int .u32 167837697, .int .i64 7, .int .u32 134744072, .int .i64 53, .int .u32 0, .int .u32 0, .int .i64 0, .int .i64 0, .slice none 0 0]] w fun e w' => ∃ X k, e = .returned (.tuple #[.slice X (build exW).length k, .nilIface]) ∧ (build exW).length ≤ k ∧ RB w' X (build exW) ∧ Below w.heap.size w w' :=
    pbuild_n exW none 0 w hD exW_good exW_u32
  rw [hl] at hcall
  have HI := Lib.hid hI
  have HI1 := Lib.hid hI1
  have HL := Lib.hid hl
  have HL1 := Lib.hid hl1
  have HNE := Lib.hid hne
  have HBK := Lib.hid hback
  clear hI hD hI1 hl1 hne hback hl
  generalize hqq : setSrc exW 16843009 1024 = q at *
  have HQQ := Lib.hid hqq
  clear hqq
  generalize exW = p at *
  go_enter Try.func4, Try.ntmps4
  go_wp2_with fail
  (with_reducible refine hcall.mono ?_)
  rintro e w1 ⟨X1, k1, rfl, hk1, hR1, hb⟩
  have d0 := hb
  clear hb hcall
  go_wp2_with fail
  (with_reducible refine (source_n (build p) p X1 28 k1 16843009 1024 w1 HL.out hR1 hk1 HI.out (by omega) (by omega)).mono ?_)
  rintro e w2 ⟨X2, k2, rfl, hk2, hR2, -, hb⟩
  rw [HQQ.out] at hR2
  have hR1 := hR1.below hb
  replace d0 := below_call d0 hb
  clear hb
  go_wp2_with fail
  (with_reducible refine (wrap_n 167772208 167837954 (build q) q X2 28 48 k2 w2 (by unfold U32; omega) (by unfold U32; omega) HL1.out hR2 hk2 HI1.out (by omega) rfl).mono ?_)
  rintro e w3 ⟨X3, k3, rfl, hk3, hR3, hb⟩
  have hR1 := hR1.below hb
  have hR2 := hR2.below hb
  replace d0 := below_call d0 hb
  clear hb
  go_wp2_with fail
  (with_reducible refine (unwrap_n 167772208 167837954 (build q) q X3 28 48 k3 w3 (by unfold U32; omega) (by unfold U32; omega) HL1.out HI1.out (by omega) rfl hR3 hk3).mono ?_)
  rintro e w4 ⟨X4, k4, rfl, hk4, hR4, hb⟩
  have hR1 := hR1.below hb
  have hR2 := hR2.below hb
  replace d0 := below_call d0 hb
  clear hb hR3
  go_wp2_with fail
  (with_reducible refine (source_n (build q) q X4 28 k4 167837697 7 w4 HL1.out hR4 hk4 HI1.out (by omega) (by omega)).mono ?_)
  rintro e w5 ⟨X5, k5, rfl, hk5, hR5, -, hb⟩
  rw [HBK.out] at hR5
  have hR1 := hR1.below hb
  have hR2 := hR2.below hb
  replace d0 := below_call d0 hb
  clear hb hR4
  have hcm := beq_bs (build q) (build p)
  rw [decide_eq_false HNE.out] at hcm
  have s1 := run_str (P := Try.prog) _ _ _ _ Try.underlying26 Try.underlying5 Try.underlying9 _ 28 k1 _ hR1 HL.out
  have s2 := run_str (P := Try.prog) _ _ _ _ Try.underlying26 Try.underlying5 Try.underlying9 _ 28 k2 _ hR2 HL1.out
  have s3 := run_str (P := Try.prog) _ _ _ _ Try.underlying26 Try.underlying5 Try.underlying9 _ 28 k5 _ hR5 HL.out
  generalize bs (build p) = y1 at *
  generalize bs (build q) = y2 at *
  have hcm2 : ¬ y2.toList = y1.toList := by simpa using hcm
  clear hR1 hR2 hR5
  go_wp2_with fail
  go_ret
  exact ⟨by simp [hcm], d0⟩
end Go.Proofs.Ytleahlgimppjkaa
