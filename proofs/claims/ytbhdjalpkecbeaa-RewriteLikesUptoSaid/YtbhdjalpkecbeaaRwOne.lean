/- The walks of opened, one, Source, Dest. -/
import Derived.Test.YtbhdjalpkecbeaaRwSide
import Derived.Test.YtbhdjalpkecbeaaPFlow
import Derived.Test.YtbhdjalpkecbeaaClone
namespace Go.Proofs.Ytbhdjalpkecbeaa
set_option linter.unusedVariables false
set_option linter.unusedSimpArgs false
open Go.RowKit

abbrev opz : Value := .agg #[.slice none 0 0, .int .i64 0]
theorem clone_n (xs : List UInt8) (A : Option Addr) (n c : Nat) (w : World) (hn : xs.length = n) (hA : RB w A xs) (hc : n ≤ c) (h0 : 0 < n) (hl : n ≤ 4000000) :
    Calls Try.prog 46 #[.slice A n c] w fun e w' => ∃ g k, e = .returned (.slice (some ⟨g, 0, none⟩) n k) ∧ Hid (w'.ownsRow w.heap.size 5 1 (.slice (some ⟨g, 0, none⟩) n k) n (xs.map bv)) ∧ w.heap.size ≤ g ∧ Below w.heap.size w w' := by
  subst hn
  refine (clone_any xs A c w hA hc hl).mono ?_
  rintro e w' ⟨v, rfl, hO, hb⟩
  obtain ⟨g, k, rfl, hg, -⟩ := own_headE hO h0
  exact ⟨g, k, rfl, hO, hg, hb⟩
theorem blk2v {w : World} {g : Nat} {t : TypeId} {a b : Value} (h : Blk w g t [a, b]) : w.cell? ⟨g, 0, none⟩ = some a ∧ w.cell? ⟨g, 1, none⟩ = some b := ⟨h.cell 0, h.cell 1⟩
theorem store2 {P : Program} {w : World} {g : Nat} {t : TypeId} {old : List Value} (cs : Array Value) (h : Blk w g t old) (ho : old.length = 2) (hl : cs.toList.length = 2) (h1 : ∀ v ∈ cs.toList, v.oneCell' = true) :
    (storeCells ⟨g, 0, none⟩ cs.toList).run P w = .ok () (w.setRow g cs) := by
  have h := store_all (P := P) (cs := cs.toList) h (by omega) h1
  simpa using h
set_option maxHeartbeats 1600000 in
theorem opened_no (b : List UInt8) (A : Option Addr) (n c : Nat) (w : World) (hn : b.length = n) (hA : RB w A b) (hc : n ≤ c) (h : ∀ p, ¬ IsPk b p) :
    Calls Try.prog 31 #[.slice A n c] w fun e w' => e = .returned (.tuple #[opz, er 2]) ∧ Below w.heap.size w w' := by
  have hb0 : Below w.heap.size w (w.alloc (.cells #[.slice none 0 0, .int .i64 0] 65)) := (Below.refl _ w).alloc (Nat.le_refl _) _
  have hG : Blk (w.alloc (.cells #[.slice none 0 0, .int .i64 0] 65)) w.heap.size 65 [.slice none 0 0, .int .i64 0] := Blk.new w _ _
  go_enter Try.func31, Try.ntmps31
  go_wp2_with fail
  generalize w.alloc (.cells #[.slice none 0 0, .int .i64 0] 65) = wa at *
  (with_reducible refine (flow_bad b A n c wa hn (hA.below hb0) hc h).mono ?_)
  rintro e w1 ⟨rfl, hb1⟩
  clear h
  obtain ⟨f, hf⟩ : ∃ f, f = fl0 := ⟨_, rfl⟩
  rw [← hf]
  clear hf
  obtain ⟨fs, hfs⟩ : ∃ fs : Array Value, #[.int .i64 f.proto, .int .u32 f.src, .int .i64 f.sp, .int .u32 f.dst, .int .i64 f.dp] = fs := ⟨_, rfl⟩
  have hsz : fs.size = 5 := by rw [← hfs]; rfl
  have hst := store5n (P := Try.prog) w1 fs (by rw [← hfs]; rfl) (by rw [← hfs]; exact fl_one f)
  have hN : Below w1.heap.size w1 ((w1.alloc (.cells #[.int .i64 0, .int .u32 0, .int .i64 0, .int .u32 0, .int .i64 0] 26)).setRow w1.heap.size fs) := below_row (below_al (Below.refl _ w1) _) (Nat.le_refl _)
  have hFB : Blk ((w1.alloc (.cells #[.int .i64 0, .int .u32 0, .int .i64 0, .int .u32 0, .int .i64 0] 26)).setRow w1.heap.size fs) w1.heap.size 26 (flc f) := by rw [← hfs]; exact (Blk.new w1 26 (flc fl0)).row _
  have hC2 := below_call hb1 hN
  have hzg2 := hb1.size
  clear hN hb1
  generalize hgg : w1.heap.size = g2 at *
  go_upto_region 2 with (fail)
  generalize (w1.alloc (.cells #[.int .i64 0, .int .u32 0, .int .i64 0, .int .u32 0, .int .i64 0] 26)).setRow g2 fs = w2 at *
  clear hst hfs hsz
  have hG2 := hG.kept hC2
  have hb2 := below_call hb0 hC2
  have hst := store2 (P := Try.prog) #[.slice none 0 0, .int .i64 0] hG2 rfl rfl (by simp [Value.oneCell'])
  have hB7 : Blk (w2.setRow w.heap.size #[.slice none 0 0, .int .i64 0]) w.heap.size 65 [.slice none 0 0, .int .i64 0] := hG2.row _
  have hb7 : Below w.heap.size w (w2.setRow w.heap.size #[.slice none 0 0, .int .i64 0]) := below_row hb2 (Nat.le_refl _)
  obtain ⟨cs, hcs⟩ : ∃ cs : Array Value, #[.slice none 0 0, .int .i64 0] = cs := ⟨_, rfl⟩
  have hcz : cs.size = 2 := by rw [← hcs]; rfl
  rw [hcs] at hst hB7 hb7
  generalize w2.setRow w.heap.size cs = w7 at *
  clear hFB
  go_wp2_with fail
  obtain ⟨r0, r1⟩ := blk2v hB7
  (try simp only [Exit.inBlock, Exit.then])
  refine bodyPost_ret (by simp [results, Try.results31, go_sem, r0, r1]; try rfl) rfl ?_
  exact ⟨rfl, hb7⟩
set_option maxRecDepth 100000 in
set_option maxHeartbeats 3200000 in
theorem opened_yes (b : List UInt8) (p : Pk) (A : Option Addr) (n c : Nat) (w : World) (hn : b.length = n) (hA : RB w A b) (hc : n ≤ c) (h : IsPk b p) :
    Calls Try.prog 31 #[.slice A n c] w fun e w' => ∃ g k, e = .returned (.tuple #[opv g n k p.fl.proto, .nilIface]) ∧ Hid (w'.ownsRow w.heap.size 5 1 (.slice (some ⟨g, 0, none⟩) n k) n (b.map bv)) ∧ Below w.heap.size w w' := by
  have hb0 : Below w.heap.size w (w.alloc (.cells #[.slice none 0 0, .int .i64 0] 65)) := (Below.refl _ w).alloc (Nat.le_refl _) _
  have hG : Blk (w.alloc (.cells #[.slice none 0 0, .int .i64 0] 65)) w.heap.size 65 [.slice none 0 0, .int .i64 0] := Blk.new w _ _
  have hsh := isPk_shape h
  have hn28 : 28 ≤ n := by have := hsh.1; omega
  have hn15 : n ≤ 1500 := by have := hsh.2.1; omega
  have HN := Lib.hid hn
  clear hsh hn
  go_enter Try.func31, Try.ntmps31
  go_wp2_with fail
  generalize w.alloc (.cells #[.slice none 0 0, .int .i64 0] 65) = wa at *
  have hgl : w.heap.size < wa.heap.size := hG.lt
  (with_reducible refine (flow_good b p A n c wa HN.out (hA.below hb0) hc h).mono ?_)
  rintro e w1 ⟨rfl, hb1⟩
  clear h
  obtain ⟨f, hf⟩ : ∃ f, f = p.fl := ⟨_, rfl⟩
  have HFL := Lib.hid hf
  rw [← hf]
  clear hf
  obtain ⟨fs, hfs⟩ : ∃ fs : Array Value, #[.int .i64 f.proto, .int .u32 f.src, .int .i64 f.sp, .int .u32 f.dst, .int .i64 f.dp] = fs := ⟨_, rfl⟩
  have hsz : fs.size = 5 := by rw [← hfs]; rfl
  have hst := store5n (P := Try.prog) w1 fs (by rw [← hfs]; rfl) (by rw [← hfs]; exact fl_one f)
  have hN : Below w1.heap.size w1 ((w1.alloc (.cells #[.int .i64 0, .int .u32 0, .int .i64 0, .int .u32 0, .int .i64 0] 26)).setRow w1.heap.size fs) := below_row (below_al (Below.refl _ w1) _) (Nat.le_refl _)
  have hFB : Blk ((w1.alloc (.cells #[.int .i64 0, .int .u32 0, .int .i64 0, .int .u32 0, .int .i64 0] 26)).setRow w1.heap.size fs) w1.heap.size 26 (flc f) := by rw [← hfs]; exact (Blk.new w1 26 (flc fl0)).row _
  have hC2 := below_call hb1 hN
  have hzg2 := hb1.size
  clear hN hb1
  generalize hgg : w1.heap.size = g2 at *
  go_upto_region 4 with (fail)
  generalize (w1.alloc (.cells #[.int .i64 0, .int .u32 0, .int .i64 0, .int .u32 0, .int .i64 0] 26)).setRow g2 fs = w2 at *
  clear hst hfs hsz
  have hG2 := hG.kept hC2
  have hA2 := (hA.below hb0).below hC2
  have hb2 := below_call hb0 hC2
  have hs2 := hC2.size
  obtain ⟨a0, -, -, -, -⟩ := blk5 hFB
  have hcur : Below w2.heap.size w2 w2.drew := Below.drew (Below.refl _ w2)
  have y0 : w2.drew.cell? ⟨g2, 0, none⟩ = some (.int .i64 f.proto) := a0
  go_region_held3 (fun w' => w'.cell? ⟨g2, 0, none⟩ = some (.int .i64 f.proto))
    (first | with_reducible exact y0 | with_reducible exact keep1 hcur a0 | with_reducible exact cell_keep hcur a0 | with_reducible exact zk)
    (first
      | (go_at_call 46; (with_reducible refine (clone_n b A n c _ HN.out (hA2.below hcur) hc (by omega) (by omega)).mono ?_); rintro e w3 ⟨g, k, rfl, HO, hg3, hb3⟩; have hsc := hcur.size; replace hcur := below_call hcur hb3; have hG3 := hG2.kept hcur; obtain ⟨cs, hcs⟩ : ∃ cs : Array Value, #[.slice (some ⟨g, 0, none⟩) n k, .int .i64 f.proto] = cs := ⟨_, rfl⟩; have hcz : cs.size = 2 := (by rw [← hcs]; rfl); have hst := store2 (P := Try.prog) cs hG3 rfl (by rw [← hcs]; rfl) (by rw [← hcs]; simp [Value.oneCell']); have hB7 : Blk (w3.setRow w.heap.size cs) w.heap.size 65 [.slice (some ⟨g, 0, none⟩) n k, .int .i64 f.proto] := (by rw [← hcs]; exact hG3.row _); have hb7 : Below w.heap.size w (w3.setRow w.heap.size cs) := below_row (below_call hb2 hcur) (Nat.le_refl _); have HO7 : Hid ((w3.setRow w.heap.size cs).ownsRow w.heap.size 5 1 (.slice (some ⟨g, 0, none⟩) n k) n (b.map bv)) := own_weaken (own_row (g := w.heap.size) (c := cs) (by omega) (own_weaken HO.out hsc)) (by omega); have zk : (w3.setRow w.heap.size cs).cell? ⟨g2, 0, none⟩ = some (.int .i64 f.proto) := (by have hF3 := (hFB.kept hcur).row_far (b := w.heap.size) (c := cs) (by omega); exact (blk5 hF3).1)))
  all_goals
    go_wp2_with fail
    obtain ⟨r0, r1⟩ := blk2v hB7
    (try simp only [Exit.inBlock, Exit.then])
    refine bodyPost_ret (by simp [results, Try.results31, go_sem, r0, r1]; try rfl) rfl ?_
    refine ⟨g, k, ?_, HO7.out, hb7⟩
    rw [HFL.out]
set_option maxHeartbeats 1600000 in
theorem one_no (b : List UInt8) (A : Option Addr) (n c : Nat) (a at' port portAt : Int) (w : World) (hn : b.length = n) (hA : RB w A b) (hc : n ≤ c) (h : ∀ p, ¬ IsPk b p) :
    Calls Try.prog 26 #[.slice A n c, .int .u32 a, .int .i64 at', .int .i64 port, .int .i64 portAt] w fun e w' => e = .returned (.tuple #[.slice none 0 0, er 2]) ∧ Below w.heap.size w w' := by
  go_enter Try.func26, Try.ntmps26
  go_wp2_with fail
  (with_reducible refine (opened_no b A n c w hn hA hc h).mono ?_)
  rintro e w1 ⟨rfl, hb1⟩
  clear h
  obtain ⟨w2, hst, hC2⟩ : ∃ w2, (storeCells ⟨w1.heap.size, 0, none⟩ (#[.slice none 0 0, .int .i64 0] : Array Value).toList).run Try.prog (w1.alloc (.cells #[.slice none 0 0, .int .i64 0] 65)) = .ok () w2 ∧ Below w.heap.size w w2 := ⟨_, store2 #[.slice none 0 0, .int .i64 0] (Blk.new w1 65 [.slice none 0 0, .int .i64 0]) rfl rfl (by simp [Value.oneCell']), below_row (below_al hb1 _) hb1.size⟩
  obtain ⟨cs, hcs⟩ : ∃ cs : Array Value, #[.slice none 0 0, .int .i64 0] = cs := ⟨_, rfl⟩
  have hsz : cs.size = 2 := by rw [← hcs]; rfl
  rw [hcs] at hst
  go_upto_region 2 with (fail)
  clear hst hcs hsz
  go_wp2_with fail
  go_ret2
  exact ⟨rfl, hC2⟩
set_option maxHeartbeats 1600000 in
theorem one_port (b : List UInt8) (p : Pk) (A : Option Addr) (n c : Nat) (a at' port portAt : Int) (w : World) (hn : b.length = n) (hA : RB w A b) (hc : n ≤ c) (h : IsPk b p) (hp : port < 0 ∨ 65535 < port) :
    Calls Try.prog 26 #[.slice A n c, .int .u32 a, .int .i64 at', .int .i64 port, .int .i64 portAt] w fun e w' => e = .returned (.tuple #[.slice none 0 0, er 9]) ∧ Below w.heap.size w w' := by
  go_enter Try.func26, Try.ntmps26
  go_wp2_with fail
  (with_reducible refine (opened_yes b p A n c w hn hA hc h).mono ?_)
  rintro e w1 ⟨g, k, rfl, HO, hb1⟩
  clear h
  generalize p.fl.proto = pr at ⊢
  obtain ⟨cs, hcs⟩ : ∃ cs : Array Value, #[.slice (some ⟨g, 0, none⟩) n k, .int .i64 pr] = cs := ⟨_, rfl⟩
  have hsz : cs.size = 2 := by rw [← hcs]; rfl
  have hst : (storeCells ⟨w1.heap.size, 0, none⟩ cs.toList).run Try.prog (w1.alloc (.cells #[.slice none 0 0, .int .i64 0] 65)) = .ok () ((w1.alloc (.cells #[.slice none 0 0, .int .i64 0] 65)).setRow w1.heap.size cs) := store2 cs (Blk.new w1 65 [.slice none 0 0, .int .i64 0]) rfl (by rw [← hcs]; rfl) (by rw [← hcs]; simp [Value.oneCell'])
  have hNN : Below w1.heap.size w1 ((w1.alloc (.cells #[.slice none 0 0, .int .i64 0] 65)).setRow w1.heap.size cs) := below_row (below_al (Below.refl _ w1) _) (Nat.le_refl _)
  have hPB : Blk ((w1.alloc (.cells #[.slice none 0 0, .int .i64 0] 65)).setRow w1.heap.size cs) w1.heap.size 65 [.slice (some ⟨g, 0, none⟩) n k, .int .i64 pr] := by rw [← hcs]; exact (Blk.new w1 65 [.slice none 0 0, .int .i64 0]).row _
  have hC2 := below_call hb1 hNN
  obtain ⟨g2, hg2⟩ : ∃ g2, w1.heap.size = g2 := ⟨_, rfl⟩
  rw [hg2] at hst hPB
  obtain ⟨w2, hw2⟩ : ∃ w2, (w1.alloc (.cells #[.slice none 0 0, .int .i64 0] 65)).setRow w1.heap.size cs = w2 := ⟨_, rfl⟩
  rw [hw2] at hNN hC2
  rw [hg2] at hw2
  rw [hw2] at hst hPB
  go_upto_region 2 with (fail)
  clear hst hcs hsz hw2
  rcases hp with hp | hp
  · have q1 : decide (port < 0) = true := decide_eq_true hp
    go_wp2_with fail
    go_ret2
    exact ⟨rfl, hC2⟩
  · have q1 : decide (port < 0) = false := decide_eq_false (by omega)
    have q2 : decide (65535 < port) = true := decide_eq_true hp
    go_wp2_with fail
    go_ret2
    exact ⟨rfl, hC2⟩
set_option maxHeartbeats 1600000 in
theorem one_good (b : List UInt8) (p : Pk) (A : Option Addr) (n c a at_ port portAt : Nat) (a' at' port' portAt' : Int) (w : World) (hn : b.length = n) (hA : RB w A b) (hc : n ≤ c) (h : IsPk b p) (ha : a ≤ 4294967295) (hp : port ≤ 65535) (hat : at_ + 3 < 28) (hpt : portAt + 1 < 28)
    (ea : a' = (a : Int)) (eat : at' = (at_ : Int)) (ep : port' = (port : Int)) (ept : portAt' = (portAt : Int)) :
    Calls Try.prog 26 #[.slice A n c, .int .u32 a', .int .i64 at', .int .i64 port', .int .i64 portAt'] w fun e w' => ∃ v, e = .returned (.tuple #[v, .nilIface]) ∧ w'.ownsRow w.heap.size 5 1 v n ((sideB p b a at_ port portAt).map bv) ∧ Below w.heap.size w w' := by
  subst ea eat ep ept
  have hsh := isPk_shape h
  have hn28 : 28 ≤ n := by have := hsh.1; omega
  have hn15 : n ≤ 1500 := by have := hsh.2.1; omega
  have hown : ow p.fl.proto + 1 < n := by
    have hpr := h.1.1.1
    have h9 := hsh.2.2.1
    have e9 : p.fl.proto = (b1 b 9 : Int) := by rw [isPk_opn h]; exact (opn_fl b).1
    unfold ow
    split <;> omega
  have HSB : Hid (sideB p b a at_ port portAt = sideN p.fl.proto b a at_ port portAt) := rfl
  have q1 : ¬ ((port : Int) < 0) := by omega
  have q2 : ¬ ((65535 : Int) < (port : Int)) := by omega
  have HN := Lib.hid hn
  clear hsh hn
  go_enter Try.func26, Try.ntmps26
  go_wp2_with fail
  (with_reducible refine (opened_yes b p A n c w HN.out hA hc h).mono ?_)
  rintro e w1 ⟨g, k, rfl, HO, hb1⟩
  clear h
  generalize p.fl.proto = pr at *
  obtain ⟨cs, hcs⟩ : ∃ cs : Array Value, #[.slice (some ⟨g, 0, none⟩) n k, .int .i64 pr] = cs := ⟨_, rfl⟩
  have hsz : cs.size = 2 := by rw [← hcs]; rfl
  have hst : (storeCells ⟨w1.heap.size, 0, none⟩ cs.toList).run Try.prog (w1.alloc (.cells #[.slice none 0 0, .int .i64 0] 65)) = .ok () ((w1.alloc (.cells #[.slice none 0 0, .int .i64 0] 65)).setRow w1.heap.size cs) := store2 cs (Blk.new w1 65 [.slice none 0 0, .int .i64 0]) rfl (by rw [← hcs]; rfl) (by rw [← hcs]; simp [Value.oneCell'])
  have hNN : Below w1.heap.size w1 ((w1.alloc (.cells #[.slice none 0 0, .int .i64 0] 65)).setRow w1.heap.size cs) := below_row (below_al (Below.refl _ w1) _) (Nat.le_refl _)
  have hPB : Blk ((w1.alloc (.cells #[.slice none 0 0, .int .i64 0] 65)).setRow w1.heap.size cs) w1.heap.size 65 [.slice (some ⟨g, 0, none⟩) n k, .int .i64 pr] := by rw [← hcs]; exact (Blk.new w1 65 [.slice none 0 0, .int .i64 0]).row _
  have hC2 := below_call hb1 hNN
  obtain ⟨g2, hg2⟩ : ∃ g2, w1.heap.size = g2 := ⟨_, rfl⟩
  rw [hg2] at hst hPB
  obtain ⟨w2, hw2⟩ : ∃ w2, (w1.alloc (.cells #[.slice none 0 0, .int .i64 0] 65)).setRow w1.heap.size cs = w2 := ⟨_, rfl⟩
  rw [hw2] at hNN hC2
  rw [hg2] at hw2
  rw [hw2] at hst hPB
  go_upto_region 2 with (fail)
  clear hst hcs hsz hw2
  have HO2 := Lib.hid (own_below HO.out hNN)
  obtain ⟨b0, b1_⟩ := blk2v hPB
  have hgne : g2 ≠ g := by
    have h1 := (own_lt HO.out (show (Value.slice (some ⟨g, 0, none⟩) n k).ownBlock = some g by simp [Value.ownBlock])).2
    omega
  go_wp2_with fail
  (with_reducible refine (side_any w.heap.size g n k a at_ port portAt pr _ _ _ _ b w2 HO2.out HN.out (by omega) hn28 (by omega) (by omega) hown ha hp rfl rfl rfl rfl).mono ?_)
  rintro e w3 ⟨⟨v3, rfl⟩, hO3, hg3⟩
  have hPB3 := hPB.grown hg3 (by simp; exact hgne)
  have hfin : Below w.heap.size w w3 := hC2.grown hg3 hC2.size (fun j e => by
    have h1 := (own_lt HO.out (show (Value.slice (some ⟨g, 0, none⟩) n k).ownBlock = some g by simp [Value.ownBlock])).1
    injection e with e
    omega)
  rw [← HSB.out] at hO3
  have HO3 := Lib.hid hO3
  clear hO3 hg3 b0 b1_
  obtain ⟨b0, b1_⟩ := blk2v hPB3
  go_wp2_with fail
  go_ret2
  exact ⟨_, rfl, HO3.out, hfin⟩
set_option maxHeartbeats 800000 in
theorem source_no (b : List UInt8) (A : Option Addr) (n c : Nat) (a port : Int) (w : World) (hn : b.length = n) (hA : RB w A b) (hc : n ≤ c) (h : ∀ p, ¬ IsPk b p) :
    Calls Try.prog 18 #[.slice A n c, .int .u32 a, .int .i64 port] w fun e w' => e = .returned (.tuple #[.slice none 0 0, er 2]) ∧ Below w.heap.size w w' := by
  go_enter Try.func18, Try.ntmps18
  go_wp2_with fail
  (with_reducible refine (one_no b A n c a 12 port 20 w hn hA hc h).mono ?_)
  rintro e w1 ⟨rfl, hb1⟩
  clear h
  go_wp2_with fail
  go_ret2
  exact ⟨rfl, hb1⟩
set_option maxHeartbeats 800000 in
theorem source_port (b : List UInt8) (p : Pk) (A : Option Addr) (n c : Nat) (a port : Int) (w : World) (hn : b.length = n) (hA : RB w A b) (hc : n ≤ c) (h : IsPk b p) (hp : port < 0 ∨ 65535 < port) :
    Calls Try.prog 18 #[.slice A n c, .int .u32 a, .int .i64 port] w fun e w' => e = .returned (.tuple #[.slice none 0 0, er 9]) ∧ Below w.heap.size w w' := by
  have HP := Lib.hid hp
  clear hp
  go_enter Try.func18, Try.ntmps18
  go_wp2_with fail
  (with_reducible refine (one_port b p A n c a 12 port 20 w hn hA hc h HP.out).mono ?_)
  rintro e w1 ⟨rfl, hb1⟩
  clear h
  go_wp2_with fail
  go_ret2
  exact ⟨rfl, hb1⟩
set_option maxHeartbeats 800000 in
theorem source_good (b : List UInt8) (p : Pk) (A : Option Addr) (n c : Nat) (a port : Int) (w : World) (hn : b.length = n) (hA : RB w A b) (hc : n ≤ c) (h : IsPk b p) (ha : 0 ≤ a ∧ a ≤ 4294967295) (hp : 0 ≤ port ∧ port ≤ 65535) :
    Calls Try.prog 18 #[.slice A n c, .int .u32 a, .int .i64 port] w fun e w' => ∃ v, e = .returned (.tuple #[v, .nilIface]) ∧ w'.ownsRow w.heap.size 5 1 v n ((build (setSrc p a port)).map bv) ∧ Below w.heap.size w w' := by
  obtain ⟨a, rfl⟩ := Int.eq_ofNat_of_zero_le ha.1
  obtain ⟨port, rfl⟩ := Int.eq_ofNat_of_zero_le hp.1
  have ha2 : a ≤ 4294967295 := by omega
  have hp2 : port ≤ 65535 := by omega
  have HB : Hid (sideB p b a 12 port 20 = build (setSrc p a port)) := by
    show sideB p b a 12 port 20 = _
    rw [← side_src p h.1 h.2.1 a port ha2 hp2, h.2.2]
  clear ha hp
  go_enter Try.func18, Try.ntmps18
  go_wp2_with fail
  (with_reducible refine (one_good b p A n c a 12 port 20 _ 12 _ 20 w hn hA hc h ha2 hp2 (by omega) (by omega) rfl rfl rfl rfl).mono ?_)
  rintro e w1 ⟨v, rfl, hO, hb1⟩
  rw [HB.out] at hO
  have HO := Lib.hid hO
  clear h hO
  go_wp2_with fail
  go_ret2
  exact ⟨_, rfl, HO.out, hb1⟩
set_option maxHeartbeats 800000 in
theorem dest_no (b : List UInt8) (A : Option Addr) (n c : Nat) (a port : Int) (w : World) (hn : b.length = n) (hA : RB w A b) (hc : n ≤ c) (h : ∀ p, ¬ IsPk b p) :
    Calls Try.prog 10 #[.slice A n c, .int .u32 a, .int .i64 port] w fun e w' => e = .returned (.tuple #[.slice none 0 0, er 2]) ∧ Below w.heap.size w w' := by
  go_enter Try.func10, Try.ntmps10
  go_wp2_with fail
  (with_reducible refine (one_no b A n c a 16 port 22 w hn hA hc h).mono ?_)
  rintro e w1 ⟨rfl, hb1⟩
  clear h
  go_wp2_with fail
  go_ret2
  exact ⟨rfl, hb1⟩
set_option maxHeartbeats 800000 in
theorem dest_port (b : List UInt8) (p : Pk) (A : Option Addr) (n c : Nat) (a port : Int) (w : World) (hn : b.length = n) (hA : RB w A b) (hc : n ≤ c) (h : IsPk b p) (hp : port < 0 ∨ 65535 < port) :
    Calls Try.prog 10 #[.slice A n c, .int .u32 a, .int .i64 port] w fun e w' => e = .returned (.tuple #[.slice none 0 0, er 9]) ∧ Below w.heap.size w w' := by
  have HP := Lib.hid hp
  clear hp
  go_enter Try.func10, Try.ntmps10
  go_wp2_with fail
  (with_reducible refine (one_port b p A n c a 16 port 22 w hn hA hc h HP.out).mono ?_)
  rintro e w1 ⟨rfl, hb1⟩
  clear h
  go_wp2_with fail
  go_ret2
  exact ⟨rfl, hb1⟩
set_option maxHeartbeats 800000 in
theorem dest_good (b : List UInt8) (p : Pk) (A : Option Addr) (n c : Nat) (a port : Int) (w : World) (hn : b.length = n) (hA : RB w A b) (hc : n ≤ c) (h : IsPk b p) (ha : 0 ≤ a ∧ a ≤ 4294967295) (hp : 0 ≤ port ∧ port ≤ 65535) :
    Calls Try.prog 10 #[.slice A n c, .int .u32 a, .int .i64 port] w fun e w' => ∃ v, e = .returned (.tuple #[v, .nilIface]) ∧ w'.ownsRow w.heap.size 5 1 v n ((build (setDst p a port)).map bv) ∧ Below w.heap.size w w' := by
  obtain ⟨a, rfl⟩ := Int.eq_ofNat_of_zero_le ha.1
  obtain ⟨port, rfl⟩ := Int.eq_ofNat_of_zero_le hp.1
  have ha2 : a ≤ 4294967295 := by omega
  have hp2 : port ≤ 65535 := by omega
  have HB : Hid (sideB p b a 16 port 22 = build (setDst p a port)) := by
    show sideB p b a 16 port 22 = _
    rw [← side_dst p h.1 h.2.1 a port ha2 hp2, h.2.2]
  clear ha hp
  go_enter Try.func10, Try.ntmps10
  go_wp2_with fail
  (with_reducible refine (one_good b p A n c a 16 port 22 _ 16 _ 22 w hn hA hc h ha2 hp2 (by omega) (by omega) rfl rfl rfl rfl).mono ?_)
  rintro e w1 ⟨v, rfl, hO, hb1⟩
  rw [HB.out] at hO
  have HO := Lib.hid hO
  clear h hO
  go_wp2_with fail
  go_ret2
  exact ⟨_, rfl, HO.out, hb1⟩
end Go.Proofs.Ytbhdjalpkecbeaa
