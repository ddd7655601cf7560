/- The walk of packet.Parse. -/
import Derived.Test.YtbhdjalpkecbeaaOpnB
import Derived.Test.YtbhdjalpkecbeaaPBuild
import Derived.Test.YtbhdjalpkecbeaaEqual
namespace Go.Proofs.Ytbhdjalpkecbeaa
set_option linter.unusedVariables false
set_option linter.unusedSimpArgs false
open Go.RowKit

/-- Bytes that open lays open. -/
def Sh (b : List UInt8) : Prop := 28 ≤ b.length ∧ b.length ≤ 1500 ∧ (b1 b 9 = 17 ∨ (b1 b 9 = 6 ∧ 40 ≤ b.length))
theorem open_ok (b : List UInt8) (ad : Addr) (c : Nat) (w : World) (hA : RB w (some ad) b) (hc : b.length ≤ c) (h : Sh b) :
    Calls Try.prog 42 #[.slice (some ad) b.length c] w fun e w' => ∃ B d, e = .returned (.tuple #[pkv (opn b) B d, .bool true]) ∧ PkO w.heap.size w' B d (opn b) ∧ Below w.heap.size w w' := by
  obtain ⟨h1, h2, h9 | ⟨h9, h4⟩⟩ := h
  · exact open_udp b ad c w hA hc h1 h2 h9
  · exact open_tcp b ad c w hA hc h4 h2 h9
theorem open_no (b : List UInt8) (A : Option Addr) (c : Nat) (w : World) (hA : RB w A b) (hc : b.length ≤ c) (h : ¬ Sh b) :
    Calls Try.prog 42 #[.slice A b.length c] w fun e w' => e = .returned (.tuple #[pkv pk0 none 0, .bool false]) ∧ Below w.heap.size w w' := by
  by_cases h1 : b.length < 20 ∨ 1500 < b.length
  · exact open_short b A c w h1
  · obtain ⟨ad, rfl, -⟩ := hA.at_ 0 (by omega)
    refine open_bad b ad c w hA hc (by omega) (by omega) ?_
    unfold Sh at h
    omega
theorem PkO.below {base : Nat} {w w' : World} {B : Option Addr} {d : Nat} {p : Pk} (h : PkO base w B d p) (hb : Below w.heap.size w w') : PkO base w' B d p := own_below h hb
theorem PkO.weaken {base base' : Nat} {w : World} {B : Option Addr} {d : Nat} {p : Pk} (h : PkO base w B d p) (hb : base' ≤ base) : PkO base' w B d p := own_weaken h hb
theorem pkc_one (p : Pk) (B : Option Addr) (d : Nat) : ∀ v ∈ (pkc p B d).toArray.toList, v.oneCell' = true := by
  simp [Value.oneCell']

set_option maxRecDepth 100000 in
set_option maxHeartbeats 1600000 in
theorem parse_no (b : List UInt8) (A : Option Addr) (c : Nat) (w : World) (hA : RB w A b) (hc : b.length ≤ c) (h : ¬ Sh b) :
    Calls Try.prog 28 #[.slice A b.length c] w fun e w' => e = .returned (.tuple #[pkv pk0 none 0, er 2]) ∧ Below w.heap.size w w' := by
  have hb0 : Below w.heap.size w (w.alloc (.cells #[.int .i64 0, .int .i64 0, .int .i64 0, .int .i64 0, .int .u32 0, .int .i64 0, .int .u32 0, .int .i64 0, .int .u32 0, .int .u32 0, .int .i64 0, .int .i64 0, .slice none 0 0] 52)) := (Below.refl _ w).alloc (Nat.le_refl _) _
  have hG : Blk (w.alloc (.cells #[.int .i64 0, .int .i64 0, .int .i64 0, .int .i64 0, .int .u32 0, .int .i64 0, .int .u32 0, .int .i64 0, .int .u32 0, .int .u32 0, .int .i64 0, .int .i64 0, .slice none 0 0] 52)) w.heap.size 52 (pkc pk0 none 0) := Blk.new w _ _
  go_enter Try.func28, Try.ntmps28
  go_wp2_with fail
  generalize w.alloc (.cells #[.int .i64 0, .int .i64 0, .int .i64 0, .int .i64 0, .int .u32 0, .int .i64 0, .int .u32 0, .int .i64 0, .int .u32 0, .int .u32 0, .int .i64 0, .int .i64 0, .slice none 0 0] 52) = wa at *
  (with_reducible refine (open_no b A c wa (hA.below hb0) hc h).mono ?_)
  rintro e w1 ⟨rfl, hb1⟩
  generalize pk0 = p at ⊢
  have hs0 := hb0.size
  have hgl := hG.lt
  have hs1 := hb1.size
  obtain ⟨cs, hcs⟩ : ∃ cs : Array Value, #[.int .i64 p.tos, .int .i64 p.id, .int .i64 p.ttl, .int .i64 p.fl.proto, .int .u32 p.fl.src, .int .i64 p.fl.sp, .int .u32 p.fl.dst, .int .i64 p.fl.dp, .int .u32 p.seq, .int .u32 p.ack, .int .i64 p.flags, .int .i64 p.win, .slice none p.data.length 0] = cs := ⟨_, rfl⟩
  have hsz : cs.size = 13 := by rw [← hcs]; rfl
  have hsl : cs.toList.length = 13 := by rw [← hcs]; rfl
  have hone : ∀ v ∈ cs.toList, v.oneCell' = true := by rw [← hcs]; exact pkc_one p none 0
  have hst := store_new (P := Try.prog) w1 cs hsl hone
  have hG2 : Blk ((w1.alloc (.cells #[.int .i64 0, .int .i64 0, .int .i64 0, .int .i64 0, .int .u32 0, .int .i64 0, .int .u32 0, .int .i64 0, .int .u32 0, .int .u32 0, .int .i64 0, .int .i64 0, .slice none 0 0] 52)).setRow w1.heap.size cs) w.heap.size 52 (pkc pk0 none 0) := ((hG.kept hb1).alloc _).row_far (by omega)
  have hB2 : Blk ((w1.alloc (.cells #[.int .i64 0, .int .i64 0, .int .i64 0, .int .i64 0, .int .u32 0, .int .i64 0, .int .u32 0, .int .i64 0, .int .u32 0, .int .u32 0, .int .i64 0, .int .i64 0, .slice none 0 0] 52)).setRow w1.heap.size cs) w1.heap.size 52 (pkc p none 0) := by
    rw [← hcs]
    exact (Blk.new w1 52 (pkc pk0 none 0)).row (pkc p none 0)
  have hb2 : Below w.heap.size w ((w1.alloc (.cells #[.int .i64 0, .int .i64 0, .int .i64 0, .int .i64 0, .int .u32 0, .int .i64 0, .int .u32 0, .int .i64 0, .int .u32 0, .int .u32 0, .int .i64 0, .int .i64 0, .slice none 0 0] 52)).setRow w1.heap.size cs) := below_row (below_al (below_call hb0 hb1) _) (by omega)
  clear hone
  generalize hg2 : w1.heap.size = g2 at *
  go_upto_region 3 with (fail)
  generalize (w1.alloc (.cells #[.int .i64 0, .int .i64 0, .int .i64 0, .int .i64 0, .int .u32 0, .int .i64 0, .int .u32 0, .int .i64 0, .int .u32 0, .int .u32 0, .int .i64 0, .int .i64 0, .slice none 0 0] 52)).setRow g2 cs = w2 at *
  obtain ⟨cs, hcs⟩ : ∃ cs : Array Value, #[.int .i64 0, .int .i64 0, .int .i64 0, .int .i64 0, .int .u32 0, .int .i64 0, .int .u32 0, .int .i64 0, .int .u32 0, .int .u32 0, .int .i64 0, .int .i64 0, .slice none 0 0] = cs := ⟨_, rfl⟩
  have hsz : cs.size = 13 := by rw [← hcs]; rfl
  have hsl : cs.toList.length = 13 := by rw [← hcs]; rfl
  have hone : ∀ v ∈ cs.toList, v.oneCell' = true := by rw [← hcs]; exact zeros_one
  have hst := store_at (P := Try.prog) cs hG2 hsl hone
  have hB7 : Blk (w2.setRow w.heap.size cs) w.heap.size 52 (pkc pk0 none 0) := by
    rw [← hcs]
    exact hG2.row _
  have hb7 : Below w.heap.size w (w2.setRow w.heap.size cs) := below_row hb2 (Nat.le_refl _)
  generalize w2.setRow w.heap.size cs = w7 at *
  clear hone
  go_wp2_with fail
  (try clear c0 c1 c2 c3 c4 c5 c6 c7 c8 c9 c10 c11 c12)
  obtain ⟨c0, c1, c2, c3, c4, c5, c6, c7, c8, c9, c10, c11, c12⟩ := blk13 hB7
  (try simp only [Exit.inBlock, Exit.then])
  refine bodyPost_ret (by simp [results, Try.results28, go_sem, c0, c1, c2, c3, c4, c5, c6, c7, c8, c9, c10, c11, c12]; try rfl) rfl ?_
  exact ⟨rfl, hb7⟩
set_option maxRecDepth 100000 in
set_option maxHeartbeats 1600000 in
theorem parse_a (b : List UInt8) (ad : Addr) (c : Nat) (w : World) (hA : RB w (some ad) b) (hc : b.length ≤ c) (h : Sh b) (hg : ¬ GoodP (opn b)) :
    Calls Try.prog 28 #[.slice (some ad) b.length c] w fun e w' => e = .returned (.tuple #[pkv pk0 none 0, er 2]) ∧ Below w.heap.size w w' := by
  have hb0 : Below w.heap.size w (w.alloc (.cells #[.int .i64 0, .int .i64 0, .int .i64 0, .int .i64 0, .int .u32 0, .int .i64 0, .int .u32 0, .int .i64 0, .int .u32 0, .int .u32 0, .int .i64 0, .int .i64 0, .slice none 0 0] 52)) := (Below.refl _ w).alloc (Nat.le_refl _) _
  have hG : Blk (w.alloc (.cells #[.int .i64 0, .int .i64 0, .int .i64 0, .int .i64 0, .int .u32 0, .int .i64 0, .int .u32 0, .int .i64 0, .int .u32 0, .int .u32 0, .int .i64 0, .int .i64 0, .slice none 0 0] 52)) w.heap.size 52 (pkc pk0 none 0) := Blk.new w _ _
  go_enter Try.func28, Try.ntmps28
  go_wp2_with fail
  generalize w.alloc (.cells #[.int .i64 0, .int .i64 0, .int .i64 0, .int .i64 0, .int .u32 0, .int .i64 0, .int .u32 0, .int .i64 0, .int .u32 0, .int .u32 0, .int .i64 0, .int .i64 0, .slice none 0 0] 52) = wa at *
  (with_reducible refine (open_ok b ad c wa (hA.below hb0) hc h).mono ?_)
  rintro e w1 ⟨B, d, rfl, HO1, hb1⟩
  have hs0 := hb0.size
  have hgl := hG.lt
  have HU := Lib.hid (opn_u32 b)
  have HGP := Lib.hid hg
  clear hg
  generalize opn b = p at *
  have hs1 := hb1.size
  obtain ⟨cs, hcs⟩ : ∃ cs : Array Value, #[.int .i64 p.tos, .int .i64 p.id, .int .i64 p.ttl, .int .i64 p.fl.proto, .int .u32 p.fl.src, .int .i64 p.fl.sp, .int .u32 p.fl.dst, .int .i64 p.fl.dp, .int .u32 p.seq, .int .u32 p.ack, .int .i64 p.flags, .int .i64 p.win, .slice B p.data.length d] = cs := ⟨_, rfl⟩
  have hsz : cs.size = 13 := by rw [← hcs]; rfl
  have hsl : cs.toList.length = 13 := by rw [← hcs]; rfl
  have hone : ∀ v ∈ cs.toList, v.oneCell' = true := by rw [← hcs]; exact pkc_one p B d
  have hst := store_new (P := Try.prog) w1 cs hsl hone
  have hG2 : Blk ((w1.alloc (.cells #[.int .i64 0, .int .i64 0, .int .i64 0, .int .i64 0, .int .u32 0, .int .i64 0, .int .u32 0, .int .i64 0, .int .u32 0, .int .u32 0, .int .i64 0, .int .i64 0, .slice none 0 0] 52)).setRow w1.heap.size cs) w.heap.size 52 (pkc pk0 none 0) := ((hG.kept hb1).alloc _).row_far (by omega)
  have hB2 : Blk ((w1.alloc (.cells #[.int .i64 0, .int .i64 0, .int .i64 0, .int .i64 0, .int .u32 0, .int .i64 0, .int .u32 0, .int .i64 0, .int .u32 0, .int .u32 0, .int .i64 0, .int .i64 0, .slice none 0 0] 52)).setRow w1.heap.size cs) w1.heap.size 52 (pkc p B d) := by
    rw [← hcs]
    exact (Blk.new w1 52 (pkc pk0 none 0)).row (pkc p B d)
  have HO2 := Lib.hid (HO1.below (below_row (g := w1.heap.size) (c := cs) (below_al (Below.refl _ w1) (.cells #[.int .i64 0, .int .i64 0, .int .i64 0, .int .i64 0, .int .u32 0, .int .i64 0, .int .u32 0, .int .i64 0, .int .u32 0, .int .u32 0, .int .i64 0, .int .i64 0, .slice none 0 0] 52)) (Nat.le_refl _)))
  have hb2 : Below w.heap.size w ((w1.alloc (.cells #[.int .i64 0, .int .i64 0, .int .i64 0, .int .i64 0, .int .u32 0, .int .i64 0, .int .u32 0, .int .i64 0, .int .u32 0, .int .u32 0, .int .i64 0, .int .i64 0, .slice none 0 0] 52)).setRow w1.heap.size cs) := below_row (below_al (below_call hb0 hb1) _) (by omega)
  clear hone HO1
  generalize hg2 : w1.heap.size = g2 at *
  go_upto_region 2 with (fail)
  generalize (w1.alloc (.cells #[.int .i64 0, .int .i64 0, .int .i64 0, .int .i64 0, .int .u32 0, .int .i64 0, .int .u32 0, .int .i64 0, .int .u32 0, .int .u32 0, .int .i64 0, .int .i64 0, .slice none 0 0] 52)).setRow g2 cs = w2 at *
  obtain ⟨c0, c1, c2, c3, c4, c5, c6, c7, c8, c9, c10, c11, c12⟩ := blk13 hB2
  clear hcs hsz hsl hst
  have hg2w : w.heap.size < g2 := by omega
  go_wp2_with fail
  (with_reducible refine (pbuild_bad p B d w2 HGP.out).mono ?_)
  rintro e w3 ⟨rfl, hb3⟩
  have hG3 := (hG2.kept hb3)
  have hbb := below_call hb2 hb3
  clear hG2 hb2 hB2 HO2 hb3 c0 c1 c2 c3 c4 c5 c6 c7 c8 c9 c10 c11 c12
  obtain ⟨cs, hcs⟩ : ∃ cs : Array Value, #[.int .i64 0, .int .i64 0, .int .i64 0, .int .i64 0, .int .u32 0, .int .i64 0, .int .u32 0, .int .i64 0, .int .u32 0, .int .u32 0, .int .i64 0, .int .i64 0, .slice none 0 0] = cs := ⟨_, rfl⟩
  have hsz : cs.size = 13 := by rw [← hcs]; rfl
  have hsl : cs.toList.length = 13 := by rw [← hcs]; rfl
  have hone : ∀ v ∈ cs.toList, v.oneCell' = true := by rw [← hcs]; exact zeros_one
  have hst := store_at (P := Try.prog) cs hG3 hsl hone
  have hB7 : Blk (w3.setRow w.heap.size cs) w.heap.size 52 (pkc pk0 none 0) := by
    rw [← hcs]
    exact hG3.row _
  have hb7 : Below w.heap.size w (w3.setRow w.heap.size cs) := below_row hbb (Nat.le_refl _)
  generalize w3.setRow w.heap.size cs = w7 at *
  clear hone
  go_wp2_with fail
  (try clear c0 c1 c2 c3 c4 c5 c6 c7 c8 c9 c10 c11 c12)
  obtain ⟨c0, c1, c2, c3, c4, c5, c6, c7, c8, c9, c10, c11, c12⟩ := blk13 hB7
  (try simp only [Exit.inBlock, Exit.then])
  refine bodyPost_ret (by simp [results, Try.results28, go_sem, c0, c1, c2, c3, c4, c5, c6, c7, c8, c9, c10, c11, c12]; try rfl) rfl ?_
  exact ⟨rfl, hb7⟩
set_option maxRecDepth 100000 in
set_option maxHeartbeats 1600000 in
theorem parse_b (b : List UInt8) (ad : Addr) (c : Nat) (w : World) (hA : RB w (some ad) b) (hc : b.length ≤ c) (h : Sh b) (hg : GoodP (opn b)) (hne : build (opn b) ≠ b) :
    Calls Try.prog 28 #[.slice (some ad) b.length c] w fun e w' => e = .returned (.tuple #[pkv pk0 none 0, er 2]) ∧ Below w.heap.size w w' := by
  have hb0 : Below w.heap.size w (w.alloc (.cells #[.int .i64 0, .int .i64 0, .int .i64 0, .int .i64 0, .int .u32 0, .int .i64 0, .int .u32 0, .int .i64 0, .int .u32 0, .int .u32 0, .int .i64 0, .int .i64 0, .slice none 0 0] 52)) := (Below.refl _ w).alloc (Nat.le_refl _) _
  have hG : Blk (w.alloc (.cells #[.int .i64 0, .int .i64 0, .int .i64 0, .int .i64 0, .int .u32 0, .int .i64 0, .int .u32 0, .int .i64 0, .int .u32 0, .int .u32 0, .int .i64 0, .int .i64 0, .slice none 0 0] 52)) w.heap.size 52 (pkc pk0 none 0) := Blk.new w _ _
  go_enter Try.func28, Try.ntmps28
  go_wp2_with fail
  generalize w.alloc (.cells #[.int .i64 0, .int .i64 0, .int .i64 0, .int .i64 0, .int .u32 0, .int .i64 0, .int .u32 0, .int .i64 0, .int .u32 0, .int .u32 0, .int .i64 0, .int .i64 0, .slice none 0 0] 52) = wa at *
  (with_reducible refine (open_ok b ad c wa (hA.below hb0) hc h).mono ?_)
  rintro e w1 ⟨B, d, rfl, HO1, hb1⟩
  have hs0 := hb0.size
  have hgl := hG.lt
  have HU := Lib.hid (opn_u32 b)
  have HGP := Lib.hid hg
  have HNE := Lib.hid hne
  clear hg hne
  generalize opn b = p at *
  have hs1 := hb1.size
  obtain ⟨cs, hcs⟩ : ∃ cs : Array Value, #[.int .i64 p.tos, .int .i64 p.id, .int .i64 p.ttl, .int .i64 p.fl.proto, .int .u32 p.fl.src, .int .i64 p.fl.sp, .int .u32 p.fl.dst, .int .i64 p.fl.dp, .int .u32 p.seq, .int .u32 p.ack, .int .i64 p.flags, .int .i64 p.win, .slice B p.data.length d] = cs := ⟨_, rfl⟩
  have hsz : cs.size = 13 := by rw [← hcs]; rfl
  have hsl : cs.toList.length = 13 := by rw [← hcs]; rfl
  have hone : ∀ v ∈ cs.toList, v.oneCell' = true := by rw [← hcs]; exact pkc_one p B d
  have hst := store_new (P := Try.prog) w1 cs hsl hone
  have hG2 : Blk ((w1.alloc (.cells #[.int .i64 0, .int .i64 0, .int .i64 0, .int .i64 0, .int .u32 0, .int .i64 0, .int .u32 0, .int .i64 0, .int .u32 0, .int .u32 0, .int .i64 0, .int .i64 0, .slice none 0 0] 52)).setRow w1.heap.size cs) w.heap.size 52 (pkc pk0 none 0) := ((hG.kept hb1).alloc _).row_far (by omega)
  have hB2 : Blk ((w1.alloc (.cells #[.int .i64 0, .int .i64 0, .int .i64 0, .int .i64 0, .int .u32 0, .int .i64 0, .int .u32 0, .int .i64 0, .int .u32 0, .int .u32 0, .int .i64 0, .int .i64 0, .slice none 0 0] 52)).setRow w1.heap.size cs) w1.heap.size 52 (pkc p B d) := by
    rw [← hcs]
    exact (Blk.new w1 52 (pkc pk0 none 0)).row (pkc p B d)
  have HO2 := Lib.hid (HO1.below (below_row (g := w1.heap.size) (c := cs) (below_al (Below.refl _ w1) (.cells #[.int .i64 0, .int .i64 0, .int .i64 0, .int .i64 0, .int .u32 0, .int .i64 0, .int .u32 0, .int .i64 0, .int .u32 0, .int .u32 0, .int .i64 0, .int .i64 0, .slice none 0 0] 52)) (Nat.le_refl _)))
  have hb2 : Below w.heap.size w ((w1.alloc (.cells #[.int .i64 0, .int .i64 0, .int .i64 0, .int .i64 0, .int .u32 0, .int .i64 0, .int .u32 0, .int .i64 0, .int .u32 0, .int .u32 0, .int .i64 0, .int .i64 0, .slice none 0 0] 52)).setRow w1.heap.size cs) := below_row (below_al (below_call hb0 hb1) _) (by omega)
  clear hone HO1
  generalize hg2 : w1.heap.size = g2 at *
  go_upto_region 2 with (fail)
  generalize (w1.alloc (.cells #[.int .i64 0, .int .i64 0, .int .i64 0, .int .i64 0, .int .u32 0, .int .i64 0, .int .u32 0, .int .i64 0, .int .u32 0, .int .u32 0, .int .i64 0, .int .i64 0, .slice none 0 0] 52)).setRow g2 cs = w2 at *
  obtain ⟨c0, c1, c2, c3, c4, c5, c6, c7, c8, c9, c10, c11, c12⟩ := blk13 hB2
  clear hcs hsz hsl hst
  have hg2w : w.heap.size < g2 := by omega
  go_wp2_with fail
  (with_reducible refine (pbuild_good p B d w2 HO2.out.pkd HGP.out HU.out).mono ?_)
  rintro e w3 ⟨v, rfl, hO3, hb3⟩
  generalize build p = q at *
  obtain ⟨A3, k3, rfl, -, hR3, -⟩ := own_form hO3
  replace hR3 : RB w3 A3 q := hR3
  have hG3 := (hG2.kept hb3)
  have hbb := below_call hb2 hb3
  have hA3 := hA.below hbb
  clear hG2 hb2 hB2 HO2 hO3 hb3 c0 c1 c2 c3 c4 c5 c6 c7 c8 c9 c10 c11 c12
  go_wp2_with fail
  (with_reducible refine (equal_any q b A3 (some ad) k3 c w3 hR3 hA3).mono ?_)
  rintro e w4 ⟨rfl, rfl⟩
  rw [decide_eq_false HNE.out]
  obtain ⟨cs, hcs⟩ : ∃ cs : Array Value, #[.int .i64 0, .int .i64 0, .int .i64 0, .int .i64 0, .int .u32 0, .int .i64 0, .int .u32 0, .int .i64 0, .int .u32 0, .int .u32 0, .int .i64 0, .int .i64 0, .slice none 0 0] = cs := ⟨_, rfl⟩
  have hsz : cs.size = 13 := by rw [← hcs]; rfl
  have hsl : cs.toList.length = 13 := by rw [← hcs]; rfl
  have hone : ∀ v ∈ cs.toList, v.oneCell' = true := by rw [← hcs]; exact zeros_one
  have hst := store_at (P := Try.prog) cs hG3 hsl hone
  have hB7 : Blk (w4.setRow w.heap.size cs) w.heap.size 52 (pkc pk0 none 0) := by
    rw [← hcs]
    exact hG3.row _
  have hb7 : Below w.heap.size w (w4.setRow w.heap.size cs) := below_row hbb (Nat.le_refl _)
  generalize w4.setRow w.heap.size cs = w7 at *
  clear hone
  go_wp2_with fail
  (try clear c0 c1 c2 c3 c4 c5 c6 c7 c8 c9 c10 c11 c12)
  obtain ⟨c0, c1, c2, c3, c4, c5, c6, c7, c8, c9, c10, c11, c12⟩ := blk13 hB7
  (try simp only [Exit.inBlock, Exit.then])
  refine bodyPost_ret (by simp [results, Try.results28, go_sem, c0, c1, c2, c3, c4, c5, c6, c7, c8, c9, c10, c11, c12]; try rfl) rfl ?_
  exact ⟨rfl, hb7⟩
set_option maxRecDepth 100000 in
set_option maxHeartbeats 1600000 in
theorem parse_g (b : List UInt8) (ad : Addr) (c : Nat) (w : World) (hA : RB w (some ad) b) (hc : b.length ≤ c) (h : Sh b) (hg : GoodP (opn b)) (hq : build (opn b) = b) :
    Calls Try.prog 28 #[.slice (some ad) b.length c] w fun e w' => ∃ B d, e = .returned (.tuple #[pkv (opn b) B d, .nilIface]) ∧ PkO w.heap.size w' B d (opn b) ∧ Below w.heap.size w w' := by
  have hb0 : Below w.heap.size w (w.alloc (.cells #[.int .i64 0, .int .i64 0, .int .i64 0, .int .i64 0, .int .u32 0, .int .i64 0, .int .u32 0, .int .i64 0, .int .u32 0, .int .u32 0, .int .i64 0, .int .i64 0, .slice none 0 0] 52)) := (Below.refl _ w).alloc (Nat.le_refl _) _
  have hG : Blk (w.alloc (.cells #[.int .i64 0, .int .i64 0, .int .i64 0, .int .i64 0, .int .u32 0, .int .i64 0, .int .u32 0, .int .i64 0, .int .u32 0, .int .u32 0, .int .i64 0, .int .i64 0, .slice none 0 0] 52)) w.heap.size 52 (pkc pk0 none 0) := Blk.new w _ _
  go_enter Try.func28, Try.ntmps28
  go_wp2_with fail
  generalize w.alloc (.cells #[.int .i64 0, .int .i64 0, .int .i64 0, .int .i64 0, .int .u32 0, .int .i64 0, .int .u32 0, .int .i64 0, .int .u32 0, .int .u32 0, .int .i64 0, .int .i64 0, .slice none 0 0] 52) = wa at *
  (with_reducible refine (open_ok b ad c wa (hA.below hb0) hc h).mono ?_)
  rintro e w1 ⟨B, d, rfl, HO1, hb1⟩
  have hs0 := hb0.size
  have hgl := hG.lt
  have HU := Lib.hid (opn_u32 b)
  have HGP := Lib.hid hg
  have HQ := Lib.hid hq
  clear hg hq
  generalize hpe : opn b = p at *
  have HPE := Lib.hid hpe
  clear hpe
  have hs1 := hb1.size
  obtain ⟨cs, hcs⟩ : ∃ cs : Array Value, #[.int .i64 p.tos, .int .i64 p.id, .int .i64 p.ttl, .int .i64 p.fl.proto, .int .u32 p.fl.src, .int .i64 p.fl.sp, .int .u32 p.fl.dst, .int .i64 p.fl.dp, .int .u32 p.seq, .int .u32 p.ack, .int .i64 p.flags, .int .i64 p.win, .slice B p.data.length d] = cs := ⟨_, rfl⟩
  have hsz : cs.size = 13 := by rw [← hcs]; rfl
  have hsl : cs.toList.length = 13 := by rw [← hcs]; rfl
  have hone : ∀ v ∈ cs.toList, v.oneCell' = true := by rw [← hcs]; exact pkc_one p B d
  have hst := store_new (P := Try.prog) w1 cs hsl hone
  have hG2 : Blk ((w1.alloc (.cells #[.int .i64 0, .int .i64 0, .int .i64 0, .int .i64 0, .int .u32 0, .int .i64 0, .int .u32 0, .int .i64 0, .int .u32 0, .int .u32 0, .int .i64 0, .int .i64 0, .slice none 0 0] 52)).setRow w1.heap.size cs) w.heap.size 52 (pkc pk0 none 0) := ((hG.kept hb1).alloc _).row_far (by omega)
  have hB2 : Blk ((w1.alloc (.cells #[.int .i64 0, .int .i64 0, .int .i64 0, .int .i64 0, .int .u32 0, .int .i64 0, .int .u32 0, .int .i64 0, .int .u32 0, .int .u32 0, .int .i64 0, .int .i64 0, .slice none 0 0] 52)).setRow w1.heap.size cs) w1.heap.size 52 (pkc p B d) := by
    rw [← hcs]
    exact (Blk.new w1 52 (pkc pk0 none 0)).row (pkc p B d)
  have HO2 := Lib.hid (HO1.below (below_row (g := w1.heap.size) (c := cs) (below_al (Below.refl _ w1) (.cells #[.int .i64 0, .int .i64 0, .int .i64 0, .int .i64 0, .int .u32 0, .int .i64 0, .int .u32 0, .int .i64 0, .int .u32 0, .int .u32 0, .int .i64 0, .int .i64 0, .slice none 0 0] 52)) (Nat.le_refl _)))
  have hb2 : Below w.heap.size w ((w1.alloc (.cells #[.int .i64 0, .int .i64 0, .int .i64 0, .int .i64 0, .int .u32 0, .int .i64 0, .int .u32 0, .int .i64 0, .int .u32 0, .int .u32 0, .int .i64 0, .int .i64 0, .slice none 0 0] 52)).setRow w1.heap.size cs) := below_row (below_al (below_call hb0 hb1) _) (by omega)
  clear hone HO1
  generalize hg2 : w1.heap.size = g2 at *
  go_upto_region 2 with (fail)
  generalize (w1.alloc (.cells #[.int .i64 0, .int .i64 0, .int .i64 0, .int .i64 0, .int .u32 0, .int .i64 0, .int .u32 0, .int .i64 0, .int .u32 0, .int .u32 0, .int .i64 0, .int .i64 0, .slice none 0 0] 52)).setRow g2 cs = w2 at *
  obtain ⟨c0, c1, c2, c3, c4, c5, c6, c7, c8, c9, c10, c11, c12⟩ := blk13 hB2
  clear hcs hsz hsl hst
  have hg2w : w.heap.size < g2 := by omega
  go_wp2_with fail
  (with_reducible refine (pbuild_good p B d w2 HO2.out.pkd HGP.out HU.out).mono ?_)
  rintro e w3 ⟨v, rfl, hO3, hb3⟩
  rw [HQ.out] at hO3
  obtain ⟨A3, k3, rfl, -, hR3, -⟩ := own_form hO3
  replace hR3 : RB w3 A3 b := hR3
  have hG3 := (hG2.kept hb3)
  have hB3 := (hB2.kept hb3)
  have HO3 := Lib.hid (HO2.out.below hb3)
  have hbb := below_call hb2 hb3
  have hA3 := hA.below hbb
  clear hG2 hb2 hB2 HO2 hO3 hb3 c0 c1 c2 c3 c4 c5 c6 c7 c8 c9 c10 c11 c12
  go_wp2_with fail
  (with_reducible refine (equal_any b b A3 (some ad) k3 c w3 hR3 hA3).mono ?_)
  rintro e w4 ⟨rfl, rfl⟩
  rw [decide_eq_true rfl]
  obtain ⟨c0, c1, c2, c3, c4, c5, c6, c7, c8, c9, c10, c11, c12⟩ := blk13 hB3
  go_upto_region 7 with (fail)
  obtain ⟨cs, hcs⟩ : ∃ cs : Array Value, #[.int .i64 p.tos, .int .i64 p.id, .int .i64 p.ttl, .int .i64 p.fl.proto, .int .u32 p.fl.src, .int .i64 p.fl.sp, .int .u32 p.fl.dst, .int .i64 p.fl.dp, .int .u32 p.seq, .int .u32 p.ack, .int .i64 p.flags, .int .i64 p.win, .slice B p.data.length d] = cs := ⟨_, rfl⟩
  have hsz : cs.size = 13 := by rw [← hcs]; rfl
  have hsl : cs.toList.length = 13 := by rw [← hcs]; rfl
  have hone : ∀ v ∈ cs.toList, v.oneCell' = true := by rw [← hcs]; exact pkc_one p B d
  have hst := store_at (P := Try.prog) cs hG3 hsl hone
  have hB7 : Blk (w4.setRow w.heap.size cs) w.heap.size 52 (pkc p B d) := by
    rw [← hcs]
    exact hG3.row _
  have hb7 : Below w.heap.size w (w4.setRow w.heap.size cs) := below_row hbb (Nat.le_refl _)
  have HO7 : Hid (PkO wa.heap.size (w4.setRow w.heap.size cs) B d p) := own_row (g := w.heap.size) (c := cs) hgl HO3.out
  generalize w4.setRow w.heap.size cs = w7 at *
  clear hone
  go_wp2_with fail
  (try clear c0 c1 c2 c3 c4 c5 c6 c7 c8 c9 c10 c11 c12)
  obtain ⟨c0, c1, c2, c3, c4, c5, c6, c7, c8, c9, c10, c11, c12⟩ := blk13 hB7
  (try simp only [Exit.inBlock, Exit.then])
  refine bodyPost_ret (by simp [results, Try.results28, go_sem, c0, c1, c2, c3, c4, c5, c6, c7, c8, c9, c10, c11, c12]; try rfl) rfl ?_
  rw [HPE.out]
  exact ⟨B, d, rfl, HO7.out.weaken (by omega), hb7⟩
/-- Parse, of all bytes. -/
theorem parse_bad (b : List UInt8) (A : Option Addr) (c : Nat) (w : World) (hA : RB w A b) (hc : b.length ≤ c) (h : ∀ p, ¬ IsPk b p) :
    Calls Try.prog 28 #[.slice A b.length c] w fun e w' => e = .returned (.tuple #[pkv pk0 none 0, er 2]) ∧ Below w.heap.size w w' := by
  by_cases hs : Sh b
  · obtain ⟨ad, rfl, -⟩ := hA.at_ 0 (by have := hs.1; omega)
    by_cases hg : GoodP (opn b)
    · exact parse_b b ad c w hA hc hs hg fun hq => h (opn b) ⟨hg, opn_u32 b, hq⟩
    · exact parse_a b ad c w hA hc hs hg
  · exact parse_no b A c w hA hc hs
theorem parse_good (b : List UInt8) (p : Pk) (A : Option Addr) (c : Nat) (w : World) (hA : RB w A b) (hc : b.length ≤ c) (h : IsPk b p) :
    Calls Try.prog 28 #[.slice A b.length c] w fun e w' => ∃ B d, e = .returned (.tuple #[pkv p B d, .nilIface]) ∧ PkO w.heap.size w' B d p ∧ Below w.heap.size w w' := by
  obtain ⟨h1, h2, h3, h4⟩ := isPk_shape h
  have e := isPk_opn h
  obtain ⟨hg, -, hq⟩ := h
  subst e
  obtain ⟨ad, rfl, -⟩ := hA.at_ 0 (by omega)
  exact parse_g b ad c w hA hc ⟨h1, h2, h3⟩ hg hq
theorem parse_n (b : List UInt8) (p : Pk) (A : Option Addr) (n c : Nat) (w : World) (hn : b.length = n) (hA : RB w A b) (hc : n ≤ c) (h : IsPk b p) :
    Calls Try.prog 28 #[.slice A n c] w fun e w' => ∃ B d, e = .returned (.tuple #[pkv p B d, .nilIface]) ∧ PkO w.heap.size w' B d p ∧ Below w.heap.size w w' := by
  subst hn
  exact parse_good b p A c w hA hc h
theorem parse_badn (b : List UInt8) (A : Option Addr) (n c : Nat) (w : World) (hn : b.length = n) (hA : RB w A b) (hc : n ≤ c) (h : ∀ p, ¬ IsPk b p) :
    Calls Try.prog 28 #[.slice A n c] w fun e w' => e = .returned (.tuple #[pkv pk0 none 0, er 2]) ∧ Below w.heap.size w w' := by
  subst hn
  exact parse_bad b A c w hA hc h
end Go.Proofs.Ytbhdjalpkecbeaa
