/- The walks of the document's Less and Reverse. -/
import Derived.Test.YtfhdkcdhfdapbaaDoorAdLess
namespace Go.Proofs.YtfhdkcdhfdapbaaDoor
set_option linter.unusedVariables false
set_option linter.unusedSimpArgs false
open Go.RowKit Go.Sort

theorem bel_dn {B : Nat} {w w' : World} (h : Below B w w') (n : Nat) : Below B w (w'.drewN n) := ⟨h.os, h.tape, h.output, h.size, h.block⟩
/-- The first k parts are the same. -/
def SameK (f g : Fl) (k : Nat) : Prop := (0 < k → f.proto = g.proto) ∧ (1 < k → f.src = g.src) ∧ (2 < k → f.sp = g.sp) ∧ (3 < k → f.dst = g.dst) ∧ (4 < k → f.dp = g.dp)
def partK (f : Fl) : Nat → Int
  | 0 => f.proto
  | 1 => f.src
  | 2 => f.sp
  | 3 => f.dst
  | _ => f.dp
theorem same_next {f g : Fl} {k : Nat} (h : SameK f g k) (hk : k < 5) (he : partK f k = partK g k) : SameK f g (k + 1) := by
  unfold SameK at *
  have : k = 0 ∨ k = 1 ∨ k = 2 ∨ k = 3 ∨ k = 4 := by omega
  rcases this with rfl | rfl | rfl | rfl | rfl <;> simp only [partK] at he <;> omega
theorem same_less {f g : Fl} {k : Nat} (h : SameK f g k) (hk : k < 5) (he : partK f k ≠ partK g k) : lessB f g = decide (partK f k < partK g k) := by
  unfold SameK at h
  unfold lessB lessP
  refine decide_eq_decide.2 ?_
  have : k = 0 ∨ k = 1 ∨ k = 2 ∨ k = 3 ∨ k = 4 := by omega
  rcases this with rfl | rfl | rfl | rfl | rfl <;> simp only [partK] at he ⊢ <;> omega
theorem same_all {f g : Fl} (h : SameK f g 5) : lessB f g = false := by
  unfold SameK at h
  unfold lessB lessP
  exact decide_eq_false (by omega)
def fiv (f : Fl) : List Value := [.int .i64 (partK f 0), .int .i64 (partK f 1), .int .i64 (partK f 2), .int .i64 (partK f 3), .int .i64 (partK f 4)]
theorem fiv_at (f : Fl) (k : Nat) (hk : k < 5) : (fiv f)[k]? = some (.int .i64 (partK f k)) := by
  have : k = 0 ∨ k = 1 ∨ k = 2 ∨ k = 3 ∨ k = 4 := by omega
  rcases this with rfl | rfl | rfl | rfl | rfl <;> rfl
set_option maxRecDepth 100000 in
set_option maxHeartbeats 1600000 in
theorem rless_any (p sp_ dp p' sp' dp' : Int) (s d s' d' : Nat) (w : World) (hs : s < 4294967296) (hd : d < 4294967296) (hs' : s' < 4294967296) (hd' : d' < 4294967296) :
    Calls Tryd.prog 33 #[flv ⟨p, s, sp_, d, dp⟩, flv ⟨p', s', sp', d', dp'⟩] w fun e w' => e = .returned (.bool (lessB ⟨p, s, sp_, d, dp⟩ ⟨p', s', sp', d', dp'⟩)) ∧ Below w.heap.size w w' := by
  go_enter Tryd.func33, Tryd.ntmps33
  go_wp2_with fail
  have hal : Below w.heap.size w ((((w.alloc (.cells #[.int .i64 p, .int .u32 (s : Int), .int .i64 sp_, .int .u32 (d : Int), .int .i64 dp] 53)).alloc (.cells #[.int .i64 p', .int .u32 (s' : Int), .int .i64 sp', .int .u32 (d' : Int), .int .i64 dp'] 53)).alloc (.cells (fiv ⟨p, s, sp_, d, dp⟩).toArray 81)).alloc (.cells (fiv ⟨p', s', sp', d', dp'⟩).toArray 81)) := below_al (below_al (below_al (below_al (Below.refl _ w) _) _) _) _
  have hB0 : Blk ((((w.alloc (.cells #[.int .i64 p, .int .u32 (s : Int), .int .i64 sp_, .int .u32 (d : Int), .int .i64 dp] 53)).alloc (.cells #[.int .i64 p', .int .u32 (s' : Int), .int .i64 sp', .int .u32 (d' : Int), .int .i64 dp'] 53)).alloc (.cells (fiv ⟨p, s, sp_, d, dp⟩).toArray 81)).alloc (.cells (fiv ⟨p', s', sp', d', dp'⟩).toArray 81)) (w.heap.size + 1 + 1) 81 (fiv ⟨p, s, sp_, d, dp⟩) := (blk_new (by simp)).alloc _
  have hB1 : Blk ((((w.alloc (.cells #[.int .i64 p, .int .u32 (s : Int), .int .i64 sp_, .int .u32 (d : Int), .int .i64 dp] 53)).alloc (.cells #[.int .i64 p', .int .u32 (s' : Int), .int .i64 sp', .int .u32 (d' : Int), .int .i64 dp'] 53)).alloc (.cells (fiv ⟨p, s, sp_, d, dp⟩).toArray 81)).alloc (.cells (fiv ⟨p', s', sp', d', dp'⟩).toArray 81)) (w.heap.size + 1 + 1 + 1) 81 (fiv ⟨p', s', sp', d', dp'⟩) := blk_new (by simp)
  have hw1 : ((((w.alloc (.cells #[.int .i64 p, .int .u32 (s : Int), .int .i64 sp_, .int .u32 (d : Int), .int .i64 dp] 53)).alloc (.cells #[.int .i64 p', .int .u32 (s' : Int), .int .i64 sp', .int .u32 (d' : Int), .int .i64 dp'] 53)).alloc (.cells #[.int .i64 p, .int .i64 (s : Int), .int .i64 sp_, .int .i64 (d : Int), .int .i64 dp] 81)).alloc (.cells #[.int .i64 p', .int .i64 (s' : Int), .int .i64 sp', .int .i64 (d' : Int), .int .i64 dp'] 81)) = ((((w.alloc (.cells #[.int .i64 p, .int .u32 (s : Int), .int .i64 sp_, .int .u32 (d : Int), .int .i64 dp] 53)).alloc (.cells #[.int .i64 p', .int .u32 (s' : Int), .int .i64 sp', .int .u32 (d' : Int), .int .i64 dp'] 53)).alloc (.cells (fiv ⟨p, s, sp_, d, dp⟩).toArray 81)).alloc (.cells (fiv ⟨p', s', sp', d', dp'⟩).toArray 81)) := rfl
  rw [hw1]
  clear hw1
  generalize ((((w.alloc (.cells #[.int .i64 p, .int .u32 (s : Int), .int .i64 sp_, .int .u32 (d : Int), .int .i64 dp] 53)).alloc (.cells #[.int .i64 p', .int .u32 (s' : Int), .int .i64 sp', .int .u32 (d' : Int), .int .i64 dp'] 53)).alloc (.cells (fiv ⟨p, s, sp_, d, dp⟩).toArray 81)).alloc (.cells (fiv ⟨p', s', sp', d', dp'⟩).toArray 81)) = wa at *
  have HE := Lib.hid (fun k => same_next (f := ⟨p, s, sp_, d, dp⟩) (g := ⟨p', s', sp', d', dp'⟩) (k := k))
  have HL := Lib.hid (fun k => same_less (f := ⟨p, s, sp_, d, dp⟩) (g := ⟨p', s', sp', d', dp'⟩) (k := k))
  have HA := Lib.hid (same_all (f := ⟨p, s, sp_, d, dp⟩) (g := ⟨p', s', sp', d', dp'⟩))
  generalize hF : (⟨p, s, sp_, d, dp⟩ : Fl) = F at hB0 HE HL HA ⊢
  generalize hG : (⟨p', s', sp', d', dp'⟩ : Fl) = G at hB1 HE HL HA ⊢
  have HF := Lib.hid hF
  have HG := Lib.hid hG
  clear hF hG
  go_loopw [7] (fun i wr => ∃ k : Nat, k ≤ 5 ∧ i = .int .i64 (k : Int) ∧ Hid (SameK F G k) ∧ ∃ m, wr = wa.drewN m) (fun i _ => 5 - (intOf i).toNat)
  case atStart => exact ⟨0, Nat.zero_le _, rfl, by show SameK F G 0; unfold SameK; omega, 0, rfl⟩
  case round =>
    obtain ⟨k, hk, rfl, HS, m, rfl⟩ := hrel
    by_cases hlt : k < 5
    · have c0 : wa.cell? ⟨w.heap.size + 1 + 1, k, none⟩ = some (.int .i64 (partK F k)) := by rw [hB0.cell k]; exact fiv_at F k hlt
      have c1 : wa.cell? ⟨w.heap.size + 1 + 1 + 1, k, none⟩ = some (.int .i64 (partK G k)) := by rw [hB1.cell k]; exact fiv_at G k hlt
      by_cases he : partK F k = partK G k
      · have HE2 := Lib.hid (HE.out k HS.out hlt he)
        generalize partK F k = x at *
        generalize partK G k = y at *
        subst he
        go_upto_region 6 with (fail)
        go_quiet (fail)
        go_wp2_with fail
        go_roundw
        case rel => exact ⟨k + 1, by omega, by go_num, HE2.out, _, rfl⟩
        case measure => simp [intOf]; omega
      · have HL2 := Lib.hid (HL.out k HS.out hlt he)
        generalize partK F k = x at *
        generalize partK G k = y at *
        have d1 : decide (x = y) = false := decide_eq_false he
        obtain ⟨b, hb⟩ : ∃ b, decide (x < y) = b := ⟨_, rfl⟩
        have HB := Lib.hid hb
        go_upto_region 6 with (fail)
        go_quiet (fail)
        go_upto_region 7 with (fail)
        go_quiet (fail)
        go_wp2_with fail
        go_ret
        exact ⟨by rw [HF.out, HG.out, HL2.out, HB.out]; rfl, bel_dn (bel_dn (bel_dn hal _) _) _⟩
    · obtain rfl : k = 5 := by omega
      have HZ := Lib.hid (HA.out HS.out)
      go_wp2_with fail
      go_ret
      exact ⟨by rw [HF.out, HG.out, HZ.out]; rfl, bel_dn hal _⟩
theorem store_all {P : Program} {w : World} {g : Nat} {t : TypeId} {old cs : List Value} (h : Blk w g t old) (hl : old.length = cs.length) (h1 : ∀ v ∈ cs, v.oneCell' = true) :
    (storeCells ⟨g, 0, none⟩ cs).run P w = .ok () (w.setRow g cs.toArray) := by
  have := run_storeCells_from (P := P) g t cs 0 old.toArray w h (by simpa using hl.symm) h1
  simpa using this
theorem Blk.row {w : World} {g : Nat} {t : TypeId} {old : List Value} (h : Blk w g t old) (cs : List Value) : Blk (w.setRow g cs.toArray) g t cs := setRow_heap w g old.toArray cs.toArray t (0, 0) h
theorem below_row {a w : World} {g : Nat} {c : Array Value} (h : Below a.heap.size a w) (hg : a.heap.size ≤ g) : Below a.heap.size a (w.setRow g c) :=
  ⟨h.os, h.tape, h.output, by simpa [World.setRow] using h.size, fun k hk => (setRow_other w g k c (by omega)).trans (h.block k hk)⟩
theorem store5 {P : Program} {w : World} {g : Nat} {old : List Value} (cs : Array Value) (h : Blk w g 53 old) (ho : old.length = 5) (hl : cs.toList.length = 5) (h1 : ∀ v ∈ cs.toList, v.oneCell' = true) :
    (storeCells ⟨g, 0, none⟩ cs.toList).run P w = .ok () (w.setRow g cs) := by
  have h := store_all (P := P) (cs := cs.toList) h (by omega) h1
  simpa using h
theorem fl_one (f : Fl) : ∀ v ∈ (flc f).toArray.toList, v.oneCell' = true := by simp [Value.oneCell']
abbrev fl0 : Fl := ⟨0, 0, 0, 0, 0⟩
theorem store5n {P : Program} (w : World) (cs : Array Value) (hl : cs.toList.length = 5) (h1 : ∀ v ∈ cs.toList, v.oneCell' = true) :
    (storeCells ⟨w.heap.size, 0, none⟩ cs.toList).run P (w.alloc (.cells #[.int .i64 0, .int .u32 0, .int .i64 0, .int .u32 0, .int .i64 0] 53)) = .ok () ((w.alloc (.cells #[.int .i64 0, .int .u32 0, .int .i64 0, .int .u32 0, .int .i64 0] 53)).setRow w.heap.size cs) := by
  have h := store_all (P := P) (cs := cs.toList) (Blk.new w 53 (flc fl0)) hl.symm h1
  simpa [flc, fl0] using h
set_option maxHeartbeats 1600000 in
theorem rreverse_any (f : Fl) (w : World) :
    Calls Tryd.prog 30 #[flv f] w fun e w' => e = .returned (flv (rev f)) ∧ Below w.heap.size w w' := by
  have hb0 : Below w.heap.size w ((w.alloc (.cells #[.int .i64 f.proto, .int .u32 f.src, .int .i64 f.sp, .int .u32 f.dst, .int .i64 f.dp] 53)).alloc (.cells #[.int .i64 0, .int .u32 0, .int .i64 0, .int .u32 0, .int .i64 0] 53)) := below_al (below_al (Below.refl _ w) _) _
  have e1 : (w.alloc (.cells #[.int .i64 f.proto, .int .u32 f.src, .int .i64 f.sp, .int .u32 f.dst, .int .i64 f.dp] 53)).heap.size = w.heap.size + 1 := by simp
  have hB0 : Blk ((w.alloc (.cells #[.int .i64 f.proto, .int .u32 f.src, .int .i64 f.sp, .int .u32 f.dst, .int .i64 f.dp] 53)).alloc (.cells #[.int .i64 0, .int .u32 0, .int .i64 0, .int .u32 0, .int .i64 0] 53)) w.heap.size 53 (flc f) := (Blk.new w 53 (flc f)).alloc _
  have hB1 : Blk ((w.alloc (.cells #[.int .i64 f.proto, .int .u32 f.src, .int .i64 f.sp, .int .u32 f.dst, .int .i64 f.dp] 53)).alloc (.cells #[.int .i64 0, .int .u32 0, .int .i64 0, .int .u32 0, .int .i64 0] 53)) (w.heap.size + 1) 53 (flc fl0) := by rw [← e1]; exact Blk.new _ _ _
  go_enter Tryd.func30, Tryd.ntmps30
  go_upto_region 1 with (fail)
  clear e1
  generalize (w.alloc (.cells #[.int .i64 f.proto, .int .u32 f.src, .int .i64 f.sp, .int .u32 f.dst, .int .i64 f.dp] 53)).alloc (.cells #[.int .i64 0, .int .u32 0, .int .i64 0, .int .u32 0, .int .i64 0] 53) = wa at *
  have hl1 := hB1.lt
  obtain ⟨a0, a1, a2, a3, a4⟩ := blk5 hB0
  obtain ⟨fs, hfs⟩ : ∃ fs : Array Value, #[.int .i64 f.proto, .int .u32 f.src, .int .i64 f.sp, .int .u32 f.dst, .int .i64 f.dp] = fs := ⟨_, rfl⟩
  have hsz : fs.size = 5 := by rw [← hfs]; rfl
  have hst := store5n (P := Tryd.prog) wa fs (by rw [← hfs]; rfl) (by rw [← hfs]; exact fl_one f)
  have hF3 : Blk ((wa.alloc (.cells #[.int .i64 0, .int .u32 0, .int .i64 0, .int .u32 0, .int .i64 0] 53)).setRow wa.heap.size fs) wa.heap.size 53 (flc f) := by rw [← hfs]; exact (Blk.new wa 53 (flc fl0)).row _
  have hN3 : Below wa.heap.size wa ((wa.alloc (.cells #[.int .i64 0, .int .u32 0, .int .i64 0, .int .u32 0, .int .i64 0] 53)).setRow wa.heap.size fs) := below_row (below_al (Below.refl _ wa) _) (Nat.le_refl _)
  generalize hgz3 : wa.heap.size = g3 at *
  go_upto_region 2 with (fail)
  generalize (wa.alloc (.cells #[.int .i64 0, .int .u32 0, .int .i64 0, .int .u32 0, .int .i64 0] 53)).setRow g3 fs = w2 at *
  clear hst hfs hsz
  have hB0 := hB0.kept (by rw [hgz3]; exact hN3)
  have hB1 := hB1.kept (by rw [hgz3]; exact hN3)
  have hb2 : Below w.heap.size w w2 := hb0.trans (hN3.mono (by omega))
  obtain ⟨a0, a1, a2, a3, a4⟩ := blk5 hB0
  obtain ⟨b0, b1_, b2_, b3, b4_⟩ := blk5 hF3
  have f1 := hF3.frozen 1
  have f2 := hF3.frozen 2
  have f3 := hF3.frozen 3
  have f4 := hF3.frozen 4
  have hn0 : w.heap.size ≠ g3 := by omega
  have hn1 : some (w.heap.size + 1) ≠ some g3 := by simp; omega
  have hn2 : w.heap.size + 1 ≠ g3 := by omega
  go_upto_region 6 with (fail)
  have hF4 : Blk ((((w2.setCell ⟨g3, 1, none⟩ (.int .u32 f.dst)).setCell ⟨g3, 3, none⟩ (.int .u32 f.src)).setCell ⟨g3, 2, none⟩ (.int .i64 f.dp)).setCell ⟨g3, 4, none⟩ (.int .i64 f.sp)) g3 53 (flc (rev f)) := (((hF3.set_ 1 _).set_ 3 _).set_ 2 _).set_ 4 _
  have hb4 : Below w.heap.size w ((((w2.setCell ⟨g3, 1, none⟩ (.int .u32 f.dst)).setCell ⟨g3, 3, none⟩ (.int .u32 f.src)).setCell ⟨g3, 2, none⟩ (.int .i64 f.dp)).setCell ⟨g3, 4, none⟩ (.int .i64 f.sp)) := (((hb2.setCell (show w.heap.size ≤ g3 by omega) _).setCell (show w.heap.size ≤ g3 by omega) _).setCell (show w.heap.size ≤ g3 by omega) _).setCell (show w.heap.size ≤ g3 by omega) _
  have hB4 : Blk ((((w2.setCell ⟨g3, 1, none⟩ (.int .u32 f.dst)).setCell ⟨g3, 3, none⟩ (.int .u32 f.src)).setCell ⟨g3, 2, none⟩ (.int .i64 f.dp)).setCell ⟨g3, 4, none⟩ (.int .i64 f.sp)) (w.heap.size + 1) 53 (flc fl0) := (((hB1.grown (grown_set _ g3 _ _) hn1).grown (grown_set _ g3 _ _) hn1).grown (grown_set _ g3 _ _) hn1).grown (grown_set _ g3 _ _) hn1
  generalize (((w2.setCell ⟨g3, 1, none⟩ (.int .u32 f.dst)).setCell ⟨g3, 3, none⟩ (.int .u32 f.src)).setCell ⟨g3, 2, none⟩ (.int .i64 f.dp)).setCell ⟨g3, 4, none⟩ (.int .i64 f.sp) = w4 at *
  clear hF3 hB0 hB1 a0 a1 a2 a3 a4 b0 b1_ b2_ b3 b4_ f1 f2 f3 f4 hb2 hN3
  obtain ⟨b0, b1_, b2_, b3, b4_⟩ := blk5 hF4
  obtain ⟨fs, hfs⟩ : ∃ fs : Array Value, #[.int .i64 (rev f).proto, .int .u32 (rev f).src, .int .i64 (rev f).sp, .int .u32 (rev f).dst, .int .i64 (rev f).dp] = fs := ⟨_, rfl⟩
  have hsz : fs.size = 5 := by rw [← hfs]; rfl
  have hst := store5 (P := Tryd.prog) fs hB4 rfl (by rw [← hfs]; rfl) (by rw [← hfs]; exact fl_one (rev f))
  have hR : Blk (w4.setRow (w.heap.size + 1) fs) (w.heap.size + 1) 53 (flc (rev f)) := by rw [← hfs]; exact hB4.row _
  have hb5 : Below w.heap.size w (w4.setRow (w.heap.size + 1) fs) := below_row hb4 (by omega)
  have hfs' : #[.int .i64 f.proto, .int .u32 f.dst, .int .i64 f.dp, .int .u32 f.src, .int .i64 f.sp] = fs := hfs
  go_wp2_with fail
  generalize w4.setRow (w.heap.size + 1) fs = w5 at *
  obtain ⟨z0, z1, z2, z3, z4⟩ := blk5 hR
  refine bodyPost_ret (by simp [results, Tryd.results30, go_sem, z0, z1, z2, z3, z4]; try rfl) rfl ?_
  exact ⟨rfl, hb5⟩
end Go.Proofs.YtfhdkcdhfdapbaaDoor
