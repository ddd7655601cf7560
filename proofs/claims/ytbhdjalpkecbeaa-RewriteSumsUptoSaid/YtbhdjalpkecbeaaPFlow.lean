/- The walk of packet.Flow. -/
import Derived.Test.YtbhdjalpkecbeaaPParse
namespace Go.Proofs.Ytbhdjalpkecbeaa
set_option linter.unusedVariables false
set_option linter.unusedSimpArgs false
open Go.RowKit

theorem store5 {P : Program} {w : World} {g : Nat} {old : List Value} (cs : Array Value) (h : Blk w g 26 old) (ho : old.length = 5) (hl : cs.toList.length = 5) (h1 : ∀ v ∈ cs.toList, v.oneCell' = true) :
    (storeCells ⟨g, 0, none⟩ cs.toList).run P w = .ok () (w.setRow g cs) := by
  have h := store_all (P := P) (cs := cs.toList) h (by omega) h1
  simpa using h
theorem blk5 {w : World} {g : Nat} {t : TypeId} {f : Fl} (h : Blk w g t (flc f)) : w.cell? ⟨g, 0, none⟩ = some (.int .i64 f.proto) ∧ w.cell? ⟨g, 1, none⟩ = some (.int .u32 f.src) ∧ w.cell? ⟨g, 2, none⟩ = some (.int .i64 f.sp) ∧ w.cell? ⟨g, 3, none⟩ = some (.int .u32 f.dst) ∧ w.cell? ⟨g, 4, none⟩ = some (.int .i64 f.dp) :=
  ⟨h.cell 0, h.cell 1, h.cell 2, h.cell 3, h.cell 4⟩
theorem fl_one (f : Fl) : ∀ v ∈ (flc f).toArray.toList, v.oneCell' = true := by simp [Value.oneCell']
abbrev fl0 : Fl := ⟨0, 0, 0, 0, 0⟩
theorem store5n {P : Program} (w : World) (cs : Array Value) (hl : cs.toList.length = 5) (h1 : ∀ v ∈ cs.toList, v.oneCell' = true) :
    (storeCells ⟨w.heap.size, 0, none⟩ cs.toList).run P (w.alloc (.cells #[.int .i64 0, .int .u32 0, .int .i64 0, .int .u32 0, .int .i64 0] 26)) = .ok () ((w.alloc (.cells #[.int .i64 0, .int .u32 0, .int .i64 0, .int .u32 0, .int .i64 0] 26)).setRow w.heap.size cs) := by
  have h := store_all (P := P) (cs := cs.toList) (Blk.new w 26 (flc fl0)) hl.symm h1
  simpa [flc, fl0] using h
theorem keepF {wa w' : World} {g base : Nat} {p : Pk} {B : Option Addr} {d : Nat} (h : Blk wa g 52 (pkc p B d)) (hb : Below wa.heap.size wa w') :
    w'.cell? ⟨g, 3, none⟩ = some (.int .i64 p.fl.proto) ∧ w'.cell? ⟨g, 4, none⟩ = some (.int .u32 p.fl.src) ∧ w'.cell? ⟨g, 5, none⟩ = some (.int .i64 p.fl.sp) ∧ w'.cell? ⟨g, 6, none⟩ = some (.int .u32 p.fl.dst) ∧ w'.cell? ⟨g, 7, none⟩ = some (.int .i64 p.fl.dp) := by
  obtain ⟨-, -, -, h3, h4, h5, h6, h7, -, -, -, -, -⟩ := blk13 (h.kept hb)
  exact ⟨h3, h4, h5, h6, h7⟩
set_option maxRecDepth 100000 in
set_option maxHeartbeats 1600000 in
theorem flow_good (b : List UInt8) (p : Pk) (A : Option Addr) (n c : Nat) (w : World) (hn : b.length = n) (hA : RB w A b) (hc : n ≤ c) (h : IsPk b p) :
    Calls Try.prog 45 #[.slice A n c] w fun e w' => e = .returned (.tuple #[flv p.fl, .bool true]) ∧ Below w.heap.size w w' := by
  have hb0 : Below w.heap.size w (w.alloc (.cells #[.int .i64 0, .int .u32 0, .int .i64 0, .int .u32 0, .int .i64 0] 26)) := (Below.refl _ w).alloc (Nat.le_refl _) _
  have hG : Blk (w.alloc (.cells #[.int .i64 0, .int .u32 0, .int .i64 0, .int .u32 0, .int .i64 0] 26)) w.heap.size 26 (flc fl0) := Blk.new w _ _
  go_enter Try.func45, Try.ntmps45
  go_wp2_with fail
  generalize w.alloc (.cells #[.int .i64 0, .int .u32 0, .int .i64 0, .int .u32 0, .int .i64 0] 26) = wa at *
  have hgl : w.heap.size < wa.heap.size := hG.lt
  (with_reducible refine (parse_n b p A n c wa hn (hA.below hb0) hc h).mono ?_)
  rintro e w1 ⟨B, d, rfl, HO, hb1⟩
  obtain ⟨q, hq⟩ : ∃ q, q = p := ⟨_, rfl⟩
  have HQ := Lib.hid hq
  rw [← hq] at HO ⊢
  clear hq h
  obtain ⟨cs, hcs⟩ : ∃ cs : Array Value, #[.int .i64 q.tos, .int .i64 q.id, .int .i64 q.ttl, .int .i64 q.fl.proto, .int .u32 q.fl.src, .int .i64 q.fl.sp, .int .u32 q.fl.dst, .int .i64 q.fl.dp, .int .u32 q.seq, .int .u32 q.ack, .int .i64 q.flags, .int .i64 q.win, .slice B q.data.length d] = cs := ⟨_, rfl⟩
  have hsz : cs.size = 13 := by rw [← hcs]; rfl
  have hsl : cs.toList.length = 13 := by rw [← hcs]; rfl
  have hone : ∀ v ∈ cs.toList, v.oneCell' = true := by rw [← hcs]; exact pkc_one q B d
  have hst := store_new (P := Try.prog) w1 cs hsl hone
  have hN : Below w1.heap.size w1 ((w1.alloc (.cells #[.int .i64 0, .int .i64 0, .int .i64 0, .int .i64 0, .int .u32 0, .int .i64 0, .int .u32 0, .int .i64 0, .int .u32 0, .int .u32 0, .int .i64 0, .int .i64 0, .slice none 0 0] 52)).setRow w1.heap.size cs) := below_row (below_al (Below.refl _ w1) _) (Nat.le_refl _)
  have hBa : Blk ((w1.alloc (.cells #[.int .i64 0, .int .i64 0, .int .i64 0, .int .i64 0, .int .u32 0, .int .i64 0, .int .u32 0, .int .i64 0, .int .u32 0, .int .u32 0, .int .i64 0, .int .i64 0, .slice none 0 0] 52)).setRow w1.heap.size cs) w1.heap.size 52 (pkc q B d) := by rw [← hcs]; exact (Blk.new w1 52 (pkc pk0 none 0)).row (pkc q B d)
  have HOa := Lib.hid (HO.below hN)
  clear HO
  have hCa := below_call hb1 hN
  have hza := hb1.size
  clear hone hN
  generalize hga : w1.heap.size = g2 at *
  go_upto_region 2 with (fail)
  generalize (w1.alloc (.cells #[.int .i64 0, .int .i64 0, .int .i64 0, .int .i64 0, .int .u32 0, .int .i64 0, .int .u32 0, .int .i64 0, .int .u32 0, .int .u32 0, .int .i64 0, .int .i64 0, .slice none 0 0] 52)).setRow g2 cs = w2 at *
  clear hcs hsz hsl hst hb1
  have hG2 := hG.kept hCa
  have hb2 := below_call hb0 hCa
  obtain ⟨c0, c1, c2, c3, c4, c5, c6, c7, c8, c9, c10, c11, c12⟩ := blk13 hBa
  obtain ⟨fs, hfs⟩ : ∃ fs : Array Value, #[.int .i64 q.fl.proto, .int .u32 q.fl.src, .int .i64 q.fl.sp, .int .u32 q.fl.dst, .int .i64 q.fl.dp] = fs := ⟨_, rfl⟩
  have hsz : fs.size = 5 := by rw [← hfs]; rfl
  have hcur : Below w2.heap.size w2 w2.drew := Below.drew (Below.refl _ w2)
  have hGd : Blk w2.drew w.heap.size 26 (flc fl0) := hG2
  have hst := store5 (P := Try.prog) fs hGd rfl (by rw [← hfs]; rfl) (by rw [← hfs]; exact fl_one q.fl)
  have hB7 : Blk (w2.drew.setRow w.heap.size fs) w.heap.size 26 (flc q.fl) := by
    rw [← hfs]
    exact hGd.row _
  have hb7 : Below w.heap.size w (w2.drew.setRow w.heap.size fs) := below_row (Below.drew hb2) (Nat.le_refl _)
  have hBd : Blk w2.drew g2 52 (pkc q B d) := hBa
  have hB8 : Blk (w2.drew.setRow w.heap.size fs) g2 52 (pkc q B d) := hBd.row_far (by omega)
  go_region_held3 (fun w' => w'.cell? ⟨g2, 3, none⟩ = some (.int .i64 q.fl.proto) ∧ w'.cell? ⟨g2, 4, none⟩ = some (.int .u32 q.fl.src) ∧ w'.cell? ⟨g2, 5, none⟩ = some (.int .i64 q.fl.sp) ∧ w'.cell? ⟨g2, 6, none⟩ = some (.int .u32 q.fl.dst) ∧ w'.cell? ⟨g2, 7, none⟩ = some (.int .i64 q.fl.dp))
    (first | with_reducible exact keepF (base := 0) hBd (Below.refl _ _) | with_reducible exact keepF (base := 0) hB8 (Below.refl _ _))
    (fail)
  all_goals
    go_wp2_with fail
    obtain ⟨a0, a1, a2, a3, a4⟩ := blk5 hB7
    (try simp only [Exit.inBlock, Exit.then])
    refine bodyPost_ret (by simp [results, Try.results45, go_sem, a0, a1, a2, a3, a4]; try rfl) rfl ?_
    exact ⟨by rw [HQ.out], hb7⟩
set_option maxRecDepth 100000 in
set_option maxHeartbeats 1600000 in
theorem flow_bad (b : List UInt8) (A : Option Addr) (n c : Nat) (w : World) (hn : b.length = n) (hA : RB w A b) (hc : n ≤ c) (h : ∀ p, ¬ IsPk b p) :
    Calls Try.prog 45 #[.slice A n c] w fun e w' => e = .returned (.tuple #[flv fl0, .bool false]) ∧ Below w.heap.size w w' := by
  have hb0 : Below w.heap.size w (w.alloc (.cells #[.int .i64 0, .int .u32 0, .int .i64 0, .int .u32 0, .int .i64 0] 26)) := (Below.refl _ w).alloc (Nat.le_refl _) _
  have hG : Blk (w.alloc (.cells #[.int .i64 0, .int .u32 0, .int .i64 0, .int .u32 0, .int .i64 0] 26)) w.heap.size 26 (flc fl0) := Blk.new w _ _
  go_enter Try.func45, Try.ntmps45
  go_wp2_with fail
  generalize w.alloc (.cells #[.int .i64 0, .int .u32 0, .int .i64 0, .int .u32 0, .int .i64 0] 26) = wa at *
  have hgl : w.heap.size < wa.heap.size := hG.lt
  (with_reducible refine (parse_badn b A n c wa hn (hA.below hb0) hc h).mono ?_)
  rintro e w1 ⟨rfl, hb1⟩
  obtain ⟨q, hq⟩ : ∃ q, q = pk0 := ⟨_, rfl⟩
  have HQ := Lib.hid hq
  rw [← hq]
  clear hq h
  obtain ⟨cs, hcs⟩ : ∃ cs : Array Value, #[.int .i64 q.tos, .int .i64 q.id, .int .i64 q.ttl, .int .i64 q.fl.proto, .int .u32 q.fl.src, .int .i64 q.fl.sp, .int .u32 q.fl.dst, .int .i64 q.fl.dp, .int .u32 q.seq, .int .u32 q.ack, .int .i64 q.flags, .int .i64 q.win, .slice none q.data.length 0] = cs := ⟨_, rfl⟩
  have hsz : cs.size = 13 := by rw [← hcs]; rfl
  have hsl : cs.toList.length = 13 := by rw [← hcs]; rfl
  have hone : ∀ v ∈ cs.toList, v.oneCell' = true := by rw [← hcs]; exact pkc_one q none 0
  have hst := store_new (P := Try.prog) w1 cs hsl hone
  have hN : Below w1.heap.size w1 ((w1.alloc (.cells #[.int .i64 0, .int .i64 0, .int .i64 0, .int .i64 0, .int .u32 0, .int .i64 0, .int .u32 0, .int .i64 0, .int .u32 0, .int .u32 0, .int .i64 0, .int .i64 0, .slice none 0 0] 52)).setRow w1.heap.size cs) := below_row (below_al (Below.refl _ w1) _) (Nat.le_refl _)
  have hBa : Blk ((w1.alloc (.cells #[.int .i64 0, .int .i64 0, .int .i64 0, .int .i64 0, .int .u32 0, .int .i64 0, .int .u32 0, .int .i64 0, .int .u32 0, .int .u32 0, .int .i64 0, .int .i64 0, .slice none 0 0] 52)).setRow w1.heap.size cs) w1.heap.size 52 (pkc q none 0) := by rw [← hcs]; exact (Blk.new w1 52 (pkc pk0 none 0)).row (pkc q none 0)
  have hCa := below_call hb1 hN
  have hza := hb1.size
  clear hone hN
  generalize hga : w1.heap.size = g2 at *
  go_upto_region 2 with (fail)
  generalize (w1.alloc (.cells #[.int .i64 0, .int .i64 0, .int .i64 0, .int .i64 0, .int .u32 0, .int .i64 0, .int .u32 0, .int .i64 0, .int .u32 0, .int .u32 0, .int .i64 0, .int .i64 0, .slice none 0 0] 52)).setRow g2 cs = w2 at *
  clear hcs hsz hsl hst hb1
  have hG2 := hG.kept hCa
  have hb2 := below_call hb0 hCa
  obtain ⟨c0, c1, c2, c3, c4, c5, c6, c7, c8, c9, c10, c11, c12⟩ := blk13 hBa
  obtain ⟨fs, hfs⟩ : ∃ fs : Array Value, #[.int .i64 q.fl.proto, .int .u32 q.fl.src, .int .i64 q.fl.sp, .int .u32 q.fl.dst, .int .i64 q.fl.dp] = fs := ⟨_, rfl⟩
  have hsz : fs.size = 5 := by rw [← hfs]; rfl
  have hcur : Below w2.heap.size w2 w2.drew := Below.drew (Below.refl _ w2)
  have hGd : Blk w2.drew w.heap.size 26 (flc fl0) := hG2
  have hst := store5 (P := Try.prog) fs hGd rfl (by rw [← hfs]; rfl) (by rw [← hfs]; exact fl_one q.fl)
  have hB7 : Blk (w2.drew.setRow w.heap.size fs) w.heap.size 26 (flc q.fl) := by
    rw [← hfs]
    exact hGd.row _
  have hb7 : Below w.heap.size w (w2.drew.setRow w.heap.size fs) := below_row (Below.drew hb2) (Nat.le_refl _)
  have hBd : Blk w2.drew g2 52 (pkc q none 0) := hBa
  have hB8 : Blk (w2.drew.setRow w.heap.size fs) g2 52 (pkc q none 0) := hBd.row_far (by omega)
  go_region_held3 (fun w' => w'.cell? ⟨g2, 3, none⟩ = some (.int .i64 q.fl.proto) ∧ w'.cell? ⟨g2, 4, none⟩ = some (.int .u32 q.fl.src) ∧ w'.cell? ⟨g2, 5, none⟩ = some (.int .i64 q.fl.sp) ∧ w'.cell? ⟨g2, 6, none⟩ = some (.int .u32 q.fl.dst) ∧ w'.cell? ⟨g2, 7, none⟩ = some (.int .i64 q.fl.dp))
    (first | with_reducible exact keepF (base := 0) hBd (Below.refl _ _) | with_reducible exact keepF (base := 0) hB8 (Below.refl _ _))
    (fail)
  all_goals
    go_wp2_with fail
    obtain ⟨a0, a1, a2, a3, a4⟩ := blk5 hB7
    (try simp only [Exit.inBlock, Exit.then])
    refine bodyPost_ret (by simp [results, Try.results45, go_sem, a0, a1, a2, a3, a4]; try rfl) rfl ?_
    exact ⟨by rw [HQ.out], hb7⟩
end Go.Proofs.Ytbhdjalpkecbeaa
