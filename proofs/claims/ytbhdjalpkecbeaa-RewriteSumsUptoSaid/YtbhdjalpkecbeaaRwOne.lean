/- The walks of open.word, open.set. -/
import Derived.Test.YtbhdjalpkecbeaaTwo
import Derived.Test.YtbhdjalpkecbeaaRwPure
import Derived.Test.YtbhdjalpkecbeaaOpn
import Derived.Deep.RegionHeld3
import Derived.Test.YtbhdjalpkecbeaaUpd
import Derived.Test.YtbhdjalpkecbeaaPFlow
import Derived.Test.YtbhdjalpkecbeaaClone
namespace Go.Proofs.Ytbhdjalpkecbeaa
set_option linter.unusedVariables false
set_option linter.unusedSimpArgs false
open Go.RowKit

theorem u16_join8 (x y : Nat) (hx : x < 256) (hy : y < 256) : bits .or .u16 ((x * 256 : Nat) : Int) (y : Int) = ((256 * x + y : Nat) : Int) := by
  have key : (BitVec.ofInt 16 ((x * 256 : Nat) : Int) ||| BitVec.ofInt 16 (y : Int)).toNat = x * 256 + y := by
    rw [BitVec.toNat_or, BitVec.ofInt_natCast, BitVec.ofInt_natCast, BitVec.toNat_ofNat, BitVec.toNat_ofNat, Nat.mod_eq_of_lt (by omega), Nat.mod_eq_of_lt (by omega)]
    exact nat_join 8 (x * 256) y (by omega) (by omega)
  show IntKind.u16.wrap ((BitVec.ofInt 16 ((x * 256 : Nat) : Int) ||| BitVec.ofInt 16 (y : Int)).toNat : Nat) = _
  rw [key, IntWalk.u16_in _ (by omega)]
  omega
theorem far1' {w : World} {k o g i : Nat} {u v : Value} (h : w.cell? ⟨k, o, none⟩ = some u) (hne : k ≠ g) : (w.setCell ⟨g, i, none⟩ v).cell? ⟨k, o, none⟩ = some u := by
  rw [← h]
  unfold World.cell?
  rw [Below.heap_setCell _ _ _ _ hne]
theorem far1d {w : World} {k o g i : Nat} {u v : Value} (h : w.cell? ⟨k, o, none⟩ = some u) (hne : k ≠ g) : (w.setCell ⟨g, i, none⟩ v).drew.cell? ⟨k, o, none⟩ = some u := far1' h hne
theorem far2d {w : World} {k o g i j : Nat} {u v v2 : Value} (h : w.cell? ⟨k, o, none⟩ = some u) (hne : k ≠ g) : ((w.setCell ⟨g, i, none⟩ v).setCell ⟨g, j, none⟩ v2).drew.cell? ⟨k, o, none⟩ = some u := far1' (far1' h hne) hne
/-- A packet's bytes, open: a slice and a protocol. -/
abbrev opv (g n c : Nat) (pr : Int) : Value := .agg #[.slice (some ⟨g, 0, none⟩) n c, .int .i64 pr]
set_option maxHeartbeats 1600000 in
theorem word_any (base g n c i : Nat) (i' pr : Int) (l : List UInt8) (w : World) (hO : w.ownsRow base 5 1 (.slice (some ⟨g, 0, none⟩) n c) n (l.map bv)) (hn : l.length = n) (hl : n ≤ 4000000) (hi : i + 1 < n) (ei : i' = (i : Int)) :
    Calls Try.prog 62 #[opv g n c pr, .int .i64 i'] w fun e w' => e = .returned (.int .u16 (b2 l i : Int)) ∧ Below w.heap.size w w' := by
  subst ei
  have HN := Lib.hid hn
  have c0 := own_cellE (hO.alloc (.cells #[.slice (some ⟨g, 0, none⟩) n c, .int .i64 pr] 65)) i (by omega)
  have c1 := own_cellE (hO.alloc (.cells #[.slice (some ⟨g, 0, none⟩) n c, .int .i64 pr] 65)) (i + 1) (by omega)
  rw [List.getElem?_map, List.getElem?_eq_getElem (by omega)] at c0 c1
  simp only [Option.map_some] at c0 c1
  have e0 : b1 l i = (l[i]'(by omega)).toNat := by unfold b1; simp [List.getD, List.getElem?_eq_getElem (show i < l.length by omega)]
  have e1 : b1 l (i + 1) = (l[i + 1]'(by omega)).toNat := by unfold b1; simp [List.getD, List.getElem?_eq_getElem (show i + 1 < l.length by omega)]
  have HE : Hid (b2 l i = 256 * (l[i]'(by omega)).toNat + (l[i + 1]'(by omega)).toNat) := by show b2 l i = _; unfold b2; rw [e0, e1]
  clear e0 e1 hO
  generalize l[i]'(by omega) = x at *
  generalize l[i + 1]'(by omega) = y at *
  clear hn
  have hxl := x.toNat_lt
  have hyl := y.toNat_lt
  have hB : Blk (w.alloc (.cells #[.slice (some ⟨g, 0, none⟩) n c, .int .i64 pr] 65)) w.heap.size 65 [.slice (some ⟨g, 0, none⟩) n c, .int .i64 pr] := Blk.new w _ _
  have hb : Below w.heap.size w (w.alloc (.cells #[.slice (some ⟨g, 0, none⟩) n c, .int .i64 pr] 65)) := (Below.refl _ w).alloc (Nat.le_refl _) _
  have w1 : IntKind.u16.wrap (x.toNat : Int) = (x.toNat : Int) := IntWalk.u16_in _ (by omega)
  have w2 : IntKind.u16.wrap ((x.toNat : Int) * 256) = ((x.toNat * 256 : Nat) : Int) := by rw [IntWalk.u16_in _ (by omega)]; omega
  have w3 : IntKind.u16.wrap (y.toNat : Int) = (y.toNat : Int) := IntWalk.u16_in _ (by omega)
  have w4 := u16_join8 x.toNat y.toNat hxl hyl
  rw [← HE.out] at w4
  obtain ⟨z, hz⟩ : ∃ z, x.toNat * 256 = z := ⟨_, rfl⟩
  rw [hz] at w2 w4
  clear hz
  have i1 : (i : Int) < (n : Int) := by omega
  have i2 : (i : Int) + 1 < (n : Int) := by omega
  have i0 : (0 : Int) ≤ (i : Int) := by omega
  have i3 : (0 : Int) ≤ (i : Int) + 1 := by omega
  have i4 : ((i : Int) + 1).toNat = i + 1 := by omega
  have i5 : IntKind.i64.wrap ((i : Int) + 1) = (i : Int) + 1 := IntWalk.i64_in _ (by omega)
  go_enter Try.func62, Try.ntmps62
  go_upto_region 1 with (fail)
  generalize w.alloc (.cells #[.slice (some ⟨g, 0, none⟩) n c, .int .i64 pr] 65) = wa at *
  have b0 := hB.cell 0
  simp only [List.getElem?_cons_zero] at b0
  go_wp2_with fail
  go_quiet (fail)
  go_wp2_with fail
  go_ret
  exact ⟨rfl, ⟨hb.os, hb.tape, hb.output, hb.size, hb.block⟩⟩
set_option maxHeartbeats 1600000 in
theorem set_any (base g c i n x : Nat) (i' pr : Int) (l : List UInt8) (w : World) (hO : w.ownsRow base 5 1 (.slice (some ⟨g, 0, none⟩) n c) n (l.map bv)) (hn : l.length = n) (hl : n ≤ 4000000) (hi : i + 1 < n) (hx : x ≤ 65535) (ei : i' = (i : Int)) :
    Calls Try.prog 63 #[opv g n c pr, .int .i64 i', .int .u16 (x : Int)] w fun e w' => (∃ v, e = .returned v) ∧ w'.ownsRow base 5 1 (.slice (some ⟨g, 0, none⟩) n c) n ((sw l i x).map bv) ∧ w.grownBy w' (some g) := by
  subst ei
  have HN := Lib.hid hn
  have hgl : g < w.heap.size := (own_lt hO (show (Value.slice (some ⟨g, 0, none⟩) n c).ownBlock = some g by simp [Value.ownBlock])).2
  obtain ⟨a, he, HX⟩ : ∃ a : UInt8, (x : Int) / 256 = (a.toNat : Int) ∧ Hid (a = UInt8.ofNat (x / 256)) := ⟨UInt8.ofNat (x / 256), by rw [UInt8.toNat_ofNat']; omega, rfl⟩
  obtain ⟨d, hf, HY⟩ : ∃ y : UInt8, (x : Int) % 256 = (y.toNat : Int) ∧ Hid (y = UInt8.ofNat x) := ⟨UInt8.ofNat x, by rw [UInt8.toNat_ofNat']; omega, rfl⟩
  have hal : (a.toNat : Int) % 256 = (a.toNat : Int) := by have := a.toNat_lt; omega
  have hal2 : IntKind.u8.wrap (a.toNat : Int) = (a.toNat : Int) := IntWalk.u8_in _ (by have := a.toNat_lt; omega)
  have hf2 : IntKind.u8.wrap (x : Int) = (d.toNat : Int) := by rw [← hf]; simp [IntKind.wrap, IntKind.bits, IntKind.signed]
  have hB : Blk (w.alloc (.cells #[.slice (some ⟨g, 0, none⟩) n c, .int .i64 pr] 65)) w.heap.size 65 [.slice (some ⟨g, 0, none⟩) n c, .int .i64 pr] := Blk.new w _ _
  have hgr : w.grownBy (w.alloc (.cells #[.slice (some ⟨g, 0, none⟩) n c, .int .i64 pr] 65)) (some g) := ⟨rfl, rfl, rfl, by simp, fun k hk _ => Below.heap_alloc w _ k hk⟩
  have ho := hO.alloc (.cells #[.slice (some ⟨g, 0, none⟩) n c, .int .i64 pr] 65)
  clear hO
  go_enter Try.func63, Try.ntmps63
  go_upto_region 1 with (fail)
  generalize hwg : w.heap.size = gb at *
  generalize w.alloc (.cells #[.slice (some ⟨g, 0, none⟩) n c, .int .i64 pr] 65) = wa at *
  have c0 := own_cellE ho i (by omega)
  rw [List.getElem?_map, List.getElem?_eq_getElem (by omega)] at c0
  simp only [Option.map_some] at c0
  have f0 := ho.frozenAt i
  have s1 := ho.stored i (bv a)
  have c1 := own_cellE ho (i + 1) (by omega)
  rw [List.getElem?_map, List.getElem?_eq_getElem (by omega)] at c1
  simp only [Option.map_some] at c1
  have f1 := ho.frozenAt (i + 1)
  have s2 := s1.1.stored (i + 1) (bv d)
  rw [← List.map_set, ← List.map_set] at s2
  have S := Lib.hid (show _ ∧ w.grownBy _ (some g) from ⟨s2.1, (hgr.trans s1.2).trans s2.2⟩)
  clear s1 s2 ho hgr
  generalize bv (l[i]'(by have := HN.out; omega)) = z0 at *
  generalize bv (l[i + 1]'(by have := HN.out; omega)) = z1 at *
  have b0 := hB.cell 0
  simp only [List.getElem?_cons_zero] at b0
  have i1 : (i : Int) < (n : Int) := by omega
  have i2 : (i : Int) + 1 < (n : Int) := by omega
  have i0 : (0 : Int) ≤ (i : Int) := by omega
  have i3 : (0 : Int) ≤ (i : Int) + 1 := by omega
  have i4 : ((i : Int) + 1).toNat = i + 1 := by omega
  have i5 : IntKind.i64.wrap ((i : Int) + 1) = (i : Int) + 1 := IntWalk.i64_in _ (by omega)
  have hne : gb ≠ g := by omega
  have y0 : wa.drew.cell? ⟨gb, 0, none⟩ = some (.slice (some ⟨g, 0, none⟩) n c) := b0
  go_region_held3 (fun w' => w'.cell? ⟨gb, 0, none⟩ = some (.slice (some ⟨g, 0, none⟩) n c))
    (first | with_reducible exact y0 | with_reducible exact far1d b0 hne | with_reducible exact far2d b0 hne)
    (fail)
  all_goals
    go_wp2_with fail
    refine bodyPost_end (results_none rfl _ _ _) rfl ?_
    obtain ⟨t1, t2, t3, t4, t5⟩ := S.out.2
    refine ⟨⟨_, rfl⟩, ?_, ⟨t1, t2, t3, t4, t5⟩⟩
    unfold sw
    rw [← HX.out, ← HY.out]
    exact S.out.1
end Go.Proofs.Ytbhdjalpkecbeaa
namespace Go.Proofs.Ytbhdjalpkecbeaa
set_option linter.unusedVariables false
set_option linter.unusedSimpArgs false
open Go.RowKit

theorem rq_new (W : World) (t : TypeId) (m x : Nat) (hm : m ≤ 65535) (hx : x ≤ 65535) {g : Nat} (hg : g = W.heap.size) : RQ (W.alloc (.cells #[.int .u16 (m : Int), .int .u16 (x : Int)] t)) (some ⟨g, 0, none⟩) [(m, x)] := by
  subst hg
  refine RQ.mk (by simp; omega) ?_
  have h := (Blk.new W t [.int .u16 (m : Int), .int .u16 (x : Int)]).rc
  exact h
theorem update1_any (c0 m x : Nat) (A : Option Addr) (c : Nat) (w : World) (h0 : c0 ≤ 65535) (hA : RQ w A [(m, x)]) :
    Calls Try.prog 12 #[.int .u16 (c0 : Int), .slice A 1 c] w fun e w' => e = .returned (.int .u16 (upd1 c0 (m, x) : Int)) ∧ Below w.heap.size w w' :=
  update_any c0 [(m, x)] A c w h0 hA (by simp)
theorem keep4 {w w' : World} {a1 a2 a3 a4 : Addr} {u1 u2 u3 u4 : Value} (hb : Below w.heap.size w w') (h1 : w.cell? a1 = some u1) (h2 : w.cell? a2 = some u2) (h3 : w.cell? a3 = some u3) (h4 : w.cell? a4 = some u4) :
    w'.cell? a1 = some u1 ∧ w'.cell? a2 = some u2 ∧ w'.cell? a3 = some u3 ∧ w'.cell? a4 = some u4 := ⟨cell_keep hb h1, cell_keep hb h2, cell_keep hb h3, cell_keep hb h4⟩
theorem grown_belowT {w w1 w2 : World} {row : Option Nat} (h : w.grownBy w1 row) (hb : Below w1.heap.size w1 w2) : w.grownBy w2 row := h.trans ⟨hb.os, hb.tape, hb.output, hb.size, fun k hk _ => hb.block k hk⟩
theorem set_i (base g c i n x : Nat) (i' x' pr : Int) (l : List UInt8) (w : World) (hO : w.ownsRow base 5 1 (.slice (some ⟨g, 0, none⟩) n c) n (l.map bv)) (hn : l.length = n) (hl : n ≤ 4000000) (hi : i + 1 < n) (hx : x ≤ 65535) (ei : i' = (i : Int)) (ex : x' = (x : Int)) :
    Calls Try.prog 63 #[opv g n c pr, .int .i64 i', .int .u16 x'] w fun e w' => (∃ v, e = .returned v) ∧ w'.ownsRow base 5 1 (.slice (some ⟨g, 0, none⟩) n c) n ((sw l i x).map bv) ∧ w.grownBy w' (some g) := by
  subst ex
  exact set_any base g c i n x i' pr l w hO hn hl hi hx ei
theorem sw_len (l : List UInt8) (i n : Nat) : (sw l i n).length = l.length := by unfold sw; simp
theorem chg1_len (udp : Prop) [Decidable udp] (m x : Nat) (l : List UInt8) (s : Nat) : (chg1 udp m x l s).length = l.length := by unfold chg1; rw [sw_len]
theorem chgf_len (udp : Prop) [Decidable udp] (m x : Nat) (ss : List Nat) : ∀ l, (ss.foldl (chg1 udp m x) l).length = l.length := by
  induction ss with
  | nil => intro l; rfl
  | cons s r ih => intro l; rw [List.foldl_cons, ih, chg1_len]
set_option maxRecDepth 100000 in
set_option maxHeartbeats 6400000 in
theorem change_any (base g n c at_ x gs : Nat) (pr at' x' : Int) (ss : List Nat) (l : List UInt8) (w : World) (hO : w.ownsRow base 5 1 (.slice (some ⟨g, 0, none⟩) n c) n (l.map bv)) (hn : l.length = n) (hl : n ≤ 2000) (hat : at_ + 1 < n) (hx : x ≤ 65535)
    (hS : Blk w gs 3 (ss.map fun s : Nat => Value.int .i64 (s : Int))) (hgs : gs ≠ g) (hss : ∀ s ∈ ss, s + 1 < n) (hsl : ss.length ≤ 100) (ea : at' = (at_ : Int)) (ex : x' = (x : Int)) :
    Calls Try.prog 49 #[opv g n c pr, .int .i64 at', .int .u16 x', .slice (some ⟨gs, 0, none⟩) ss.length ss.length] w fun e w' => (∃ v, e = .returned v) ∧ w'.ownsRow base 5 1 (.slice (some ⟨g, 0, none⟩) n c) n ((chg (pr = 17) l at_ x ss).map bv) ∧ w.grownBy w' (some g) := by
  subst ea ex
  have HN := Lib.hid hn
  have HSS := Lib.hid hss
  have hgl : g < w.heap.size := (own_lt hO (show (Value.slice (some ⟨g, 0, none⟩) n c).ownBlock = some g by simp [Value.ownBlock])).2
  have hgsl := hS.lt
  clear hn hss
  have hB : Blk (w.alloc (.cells #[.slice (some ⟨g, 0, none⟩) n c, .int .i64 pr] 65)) w.heap.size 65 [.slice (some ⟨g, 0, none⟩) n c, .int .i64 pr] := Blk.new w _ _
  have hgr : w.grownBy (w.alloc (.cells #[.slice (some ⟨g, 0, none⟩) n c, .int .i64 pr] 65)) (some g) := ⟨rfl, rfl, rfl, by simp, fun k hk _ => Below.heap_alloc w _ k hk⟩
  have hO1 := hO.alloc (.cells #[.slice (some ⟨g, 0, none⟩) n c, .int .i64 pr] 65)
  have hS1 := hS.alloc (.cells #[.slice (some ⟨g, 0, none⟩) n c, .int .i64 pr] 65)
  clear hO hS
  go_enter Try.func49, Try.ntmps49
  go_upto_region 1 with (fail)
  generalize hwg : w.heap.size = gb at *
  generalize w.alloc (.cells #[.slice (some ⟨g, 0, none⟩) n c, .int .i64 pr] 65) = wa at *
  have b0 := hB.cell 0
  have b1_ := hB.cell 1
  simp only [List.getElem?_cons_zero, List.getElem?_cons_succ] at b0 b1_
  go_wp2_with fail
  (with_reducible refine (word_any base g n c at_ _ pr l wa hO1 HN.out (by omega) hat rfl).mono ?_)
  rintro e w1 ⟨rfl, hb1⟩
  have HM : Hid (b2 l at_ = b2 l at_) := rfl
  have hml := b2_lt l at_
  obtain ⟨m, hm⟩ : ∃ m, b2 l at_ = m := ⟨_, rfl⟩
  have HMM := Lib.hid hm
  rw [hm] at hml ⊢
  clear hm HM
  have hO2 := own_below hO1 hb1
  have hS2 := hS1.kept hb1
  have hB2 := hB.kept hb1
  have hgr2 := grown_belowT hgr hb1
  have hs1 : gb < w1.heap.size := hB2.lt
  clear hO1 hS1 hB hgr b0 b1_ hb1
  have hpb : Below w1.heap.size w1 ((w1.alloc (.cells #[.int .u16 0, .int .u16 0] 37)).setRow w1.heap.size #[.int .u16 (m : Int), .int .u16 (x : Int)]) := below_row (below_al (Below.refl _ w1) _) (Nat.le_refl _)
  have hP : Blk ((w1.alloc (.cells #[.int .u16 0, .int .u16 0] 37)).setRow w1.heap.size #[.int .u16 (m : Int), .int .u16 (x : Int)]) w1.heap.size 37 [.int .u16 (m : Int), .int .u16 (x : Int)] := (Blk.new w1 37 [.int .u16 0, .int .u16 0]).row [.int .u16 (m : Int), .int .u16 (x : Int)]
  obtain ⟨ps, hps⟩ : ∃ ps : Array Value, #[.int .u16 (m : Int), .int .u16 (x : Int)] = ps := ⟨_, rfl⟩
  have hpsz : ps.size = 2 := by rw [← hps]; rfl
  have hst : (storeCells ⟨w1.heap.size, 0, none⟩ ps.toList).run Try.prog (w1.alloc (.cells #[.int .u16 0, .int .u16 0] 37)) = .ok () ((w1.alloc (.cells #[.int .u16 0, .int .u16 0] 37)).setRow w1.heap.size ps) := by
    have h := store_all (P := Try.prog) (cs := ps.toList) (Blk.new w1 37 [.int .u16 0, .int .u16 0]) (by rw [← hps]; rfl) (by rw [← hps]; simp [Value.oneCell'])
    simpa using h
  rw [hps] at hP hpb
  have hO3 := own_below hO2 hpb
  have hS3 := hS2.kept hpb
  have hB3 := hB2.kept hpb
  have hgr3 := grown_belowT hgr2 hpb
  clear hO2 hS2 hB2 hgr2 hpb
  generalize hgp : w1.heap.size = gp at *
  go_upto_region 2 with (fail)
  generalize (w1.alloc (.cells #[.int .u16 0, .int .u16 0] 37)).setRow gp ps = w2 at *
  clear hst hps hpsz
  have b0 := hB3.cell 0
  have b1_ := hB3.cell 1
  simp only [List.getElem?_cons_zero, List.getElem?_cons_succ] at b0 b1_
  go_wp2_with fail
  (with_reducible refine (set_any base g c at_ n x _ pr l w2 hO3 HN.out (by omega) hat hx rfl).mono ?_)
  rintro e w3 ⟨⟨v3, rfl⟩, hO4, hg4⟩
  have hS4 := hS3.grown hg4 (by simp; exact hgs)
  have hB4 := hB3.grown hg4 (by simp; omega)
  have hP4 := hP.grown hg4 (by simp; omega)
  have hgr4 := hgr3.trans hg4
  have HL0 : Hid ((sw l at_ x).length = n) := by show _ = _; rw [sw_len, HN.out]
  have HCH : Hid (∀ ss, chg (pr = 17) l at_ x ss = ss.foldl (chg1 (pr = 17) m x) (sw l at_ x)) := fun ss => by unfold chg; rw [HMM.out]
  generalize sw l at_ x = l0 at *
  clear hO3 hS3 hB3 hP hgr3 hg4 b0 b1_
  go_wp2_with fail
  go_loopw [23] (fun i wr => ∃ k : Nat, k ≤ ss.length ∧ i = .int .i64 (k : Int) ∧ Hid (wr.ownsRow base 5 1 (.slice (some ⟨g, 0, none⟩) n c) n (((ss.take k).foldl (chg1 (pr = 17) m x) l0).map bv)) ∧ Hid (w.grownBy wr (some g)) ∧ Blk wr gs 3 (ss.map fun s : Nat => Value.int .i64 (s : Int)) ∧ Blk wr gb 65 [.slice (some ⟨g, 0, none⟩) n c, .int .i64 pr] ∧ Blk wr gp 37 [.int .u16 (m : Int), .int .u16 (x : Int)]) (fun i _ => ss.length - (intOf i).toNat)
  case atStart => exact ⟨0, by omega, rfl, hO4, hgr4, hS4, hB4, hP4⟩
  case round =>
    obtain ⟨k, hk, rfl, HO, HG, hSr, hBr, hPr⟩ := hrel
    clear hO4 hgr4 hS4 hB4 hP4
    by_cases hks : k < ss.length
    · have hki : (k : Int) < (ss.length : Int) := by omega
      have qk : IntKind.i64.wrap ((k : Int) + 1) = (k : Int) + 1 := IntWalk.i64_in _ (by omega)
      have hsc := hSr.cell k
      rw [List.getElem?_map, List.getElem?_eq_getElem hks] at hsc
      simp only [Option.map_some] at hsc
      have hsn := HSS.out ss[k] (List.getElem_mem hks)
      have HT := Lib.hid (take_snoc ss k hks)
      generalize ss[k] = s at *
      have HLK : Hid (((ss.take k).foldl (chg1 (pr = 17) m x) l0).length = n) := by show _ = _; rw [chgf_len, HL0.out]
      have HNX : Hid ((ss.take (k + 1)).foldl (chg1 (pr = 17) m x) l0 = chg1 (pr = 17) m x ((ss.take k).foldl (chg1 (pr = 17) m x) l0) s) := by
        show _ = _
        rw [HT.out, List.foldl_append]
        rfl
      generalize (ss.take k).foldl (chg1 (pr = 17) m x) l0 = lk at *
      have HWV := Lib.hid (show b2 lk s ≤ 65535 by have := b2_lt lk s; omega)
      go_upto_region 6 with (fail)
      clear hsc HT
      obtain ⟨wv, hwv⟩ : ∃ wv, wv = wr := ⟨_, rfl⟩
      subst hwv
      have b0 := hBr.cell 0
      have b1_ := hBr.cell 1
      have p0 := hPr.cell 0
      have p1 := hPr.cell 1
      simp only [List.getElem?_cons_zero, List.getElem?_cons_succ] at b0 b1_ p0 p1
      have hcur : Below wv.heap.size wv wv.drew := Below.drew (Below.refl _ wv)
      have hcua : Below wv.heap.size wv (wv.alloc (.cells #[.int .u16 (m : Int), .int .u16 (x : Int)] 37)).drew := Below.drew (below_al (Below.refl _ wv) _)
      have hRQ0 : RQ (wv.alloc (.cells #[.int .u16 (m : Int), .int .u16 (x : Int)] 37)).drew (some ⟨wv.heap.size, 0, none⟩) [(m, x)] := rq_new wv 37 m x (by omega) hx rfl
      obtain ⟨u, hu⟩ : ∃ u, upd1 (b2 lk s) (m, x) = u := ⟨_, rfl⟩
      have HU := Lib.hid hu
      have hul : u ≤ 65535 := by rw [← hu]; exact upd1_le _ _
      clear hu
      go_region_held3 (fun w' => w'.cell? ⟨gb, 0, none⟩ = some (.slice (some ⟨g, 0, none⟩) n c) ∧ w'.cell? ⟨gb, 1, none⟩ = some (.int .i64 pr) ∧ w'.cell? ⟨gp, 0, none⟩ = some (.int .u16 (m : Int)) ∧ w'.cell? ⟨gp, 1, none⟩ = some (.int .u16 (x : Int)))
        (first | with_reducible exact ⟨b0, b1_, p0, p1⟩ | with_reducible exact keep4 hcur b0 b1_ p0 p1 | with_reducible exact keep4 hcua b0 b1_ p0 p1 | with_reducible exact keep4 (below_al hcur _) b0 b1_ p0 p1 | with_reducible exact keep4 hc7 b0 b1_ p0 p1)
        (first
          | (go_at_call 62; (with_reducible refine (word_any base g n c s _ pr lk _ (own_below HO.out hcur) HLK.out (by omega) hsn rfl).mono ?_); rintro e w6 ⟨rfl, hb6⟩; replace hcur := below_call hcur hb6; have hRQ := rq_new w6 37 m x (by omega) hx rfl)
          | (go_at_call 62; (with_reducible refine (word_any base g n c s _ pr lk _ (own_below HO.out hcua) HLK.out (by omega) hsn rfl).mono ?_); rintro e w6 ⟨rfl, hb6⟩; replace hcua := below_call hcua hb6; have hRQ := hRQ0.below hb6)
          | (go_at_call 12; (with_reducible refine (update1_any (b2 lk s) m x _ 1 _ HWV.out hRQ).mono ?_); rintro e w7 ⟨rfl, hb7⟩; rw [HU.out]; have hc7 := below_call (below_al hcur _) hb7)
          | (go_at_call 12; (with_reducible refine (update1_any (b2 lk s) m x _ 1 _ HWV.out hRQ).mono ?_); rintro e w7 ⟨rfl, hb7⟩; rw [HU.out]; have hc7 := below_call hcua hb7))
      all_goals
        have hO7 := own_below HO.out hc7
        have hS7 := hSr.kept hc7
        have hB7 := hBr.kept hc7
        have hP7 := hPr.kept hc7
        have HG7 := Lib.hid (grown_belowT HG.out hc7)
        have HCE : Hid (chg1 (pr = 17) m x lk s = sw lk s (if u = 0 ∧ s ≠ 10 ∧ pr = 17 then 65535 else u)) := by
          show chg1 _ _ _ _ _ = _
          unfold chg1
          rw [HU.out]
        clear HO hSr hBr hPr HG hcur hcua hb7 b0 b1_ p0 p1 hRQ0 hRQ hb6
        have b0 := hB7.cell 0
        have b1_ := hB7.cell 1
        simp only [List.getElem?_cons_zero, List.getElem?_cons_succ] at b0 b1_
        have HB7 := Lib.hid hB7
        have HP7 := Lib.hid hP7
        have HS7 := Lib.hid hS7
        have HO7 := Lib.hid hO7
        clear hB7 hP7 hS7 hO7 hc7
        by_cases hz : u = 0 ∧ s ≠ 10 ∧ pr = 17
        · obtain ⟨rfl, hs10, rfl⟩ := hz
          have hsb : ((s : Int) != 10) = true := by simp; omega
          rw [if_pos ⟨rfl, hs10, rfl⟩] at HCE
          clear hs10
          go_wp2_with fail
          (with_reducible refine (set_i base g c s n 65535 _ 65535 (17 : Int) lk w7 HO7.out HLK.out (by omega) hsn (by omega) rfl rfl).mono ?_)
          rintro e w8 ⟨⟨v8, rfl⟩, hO8, hg8⟩
          have HO8 : Hid (w8.ownsRow base 5 1 (.slice (some ⟨g, 0, none⟩) n c) n (((ss.take (k + 1)).foldl (chg1 ((17 : Int) = 17) m x) l0).map bv)) := by
            show w8.ownsRow _ _ _ _ _ _
            rw [HNX.out, HCE.out]
            exact hO8
          have HS8 := HS7.out.grown hg8 (by simp; exact hgs)
          have HB8 := HB7.out.grown hg8 (by simp; omega)
          have HP8 := HP7.out.grown hg8 (by simp; omega)
          have HG8 := Lib.hid (HG7.out.trans hg8)
          clear hO8 hg8 b0 b1_
          go_wp2_with fail
          go_roundw
          case rel => exact ⟨k + 1, by omega, by go_num, HO8, HG8, HS8, HB8, HP8⟩
          case measure => simp [intOf]; omega
        · have HZ := Lib.hid hz
          rw [if_neg hz] at HCE
          clear hz
          by_cases hu0 : u = 0
          · subst hu0
            by_cases hs10 : s = 10
            · have hsb : ((s : Int) != 10) = false := by simp; omega
              clear hs10
              go_wp2_with fail
              (with_reducible refine (set_i base g c s n 0 _ 0 pr lk w7 HO7.out HLK.out (by omega) hsn (by omega) rfl rfl).mono ?_)
              rintro e w8 ⟨⟨v8, rfl⟩, hO8, hg8⟩
              have HO8 : Hid (w8.ownsRow base 5 1 (.slice (some ⟨g, 0, none⟩) n c) n (((ss.take (k + 1)).foldl (chg1 (pr = 17) m x) l0).map bv)) := by
                show w8.ownsRow _ _ _ _ _ _
                rw [HNX.out, HCE.out]
                exact hO8
              have HS8 := HS7.out.grown hg8 (by simp; exact hgs)
              have HB8 := HB7.out.grown hg8 (by simp; omega)
              have HP8 := HP7.out.grown hg8 (by simp; omega)
              have HG8 := Lib.hid (HG7.out.trans hg8)
              clear hO8 hg8 b0 b1_
              go_wp2_with fail
              go_roundw
              case rel => exact ⟨k + 1, by omega, by go_num, HO8, HG8, HS8, HB8, HP8⟩
              case measure => simp [intOf]; omega
            · have hsb : ((s : Int) != 10) = true := by simp; omega
              have hpr : (pr == 17) = false := by
                rw [beq_eq_false_iff_ne]
                intro h
                exact HZ.out ⟨rfl, hs10, h⟩
              clear hs10
              go_wp2_with fail
              (with_reducible refine (set_i base g c s n 0 _ 0 pr lk w7 HO7.out HLK.out (by omega) hsn (by omega) rfl rfl).mono ?_)
              rintro e w8 ⟨⟨v8, rfl⟩, hO8, hg8⟩
              have HO8 : Hid (w8.ownsRow base 5 1 (.slice (some ⟨g, 0, none⟩) n c) n (((ss.take (k + 1)).foldl (chg1 (pr = 17) m x) l0).map bv)) := by
                show w8.ownsRow _ _ _ _ _ _
                rw [HNX.out, HCE.out]
                exact hO8
              have HS8 := HS7.out.grown hg8 (by simp; exact hgs)
              have HB8 := HB7.out.grown hg8 (by simp; omega)
              have HP8 := HP7.out.grown hg8 (by simp; omega)
              have HG8 := Lib.hid (HG7.out.trans hg8)
              clear hO8 hg8 b0 b1_
              go_wp2_with fail
              go_roundw
              case rel => exact ⟨k + 1, by omega, by go_num, HO8, HG8, HS8, HB8, HP8⟩
              case measure => simp [intOf]; omega
          · have hub : ((u : Int) == 0) = false := by simp; omega
            clear hu0
            go_wp2_with fail
            (with_reducible refine (set_i base g c s n u _ (u : Int) pr lk w7 HO7.out HLK.out (by omega) hsn (by omega) rfl rfl).mono ?_)
            rintro e w8 ⟨⟨v8, rfl⟩, hO8, hg8⟩
            have HO8 : Hid (w8.ownsRow base 5 1 (.slice (some ⟨g, 0, none⟩) n c) n (((ss.take (k + 1)).foldl (chg1 (pr = 17) m x) l0).map bv)) := by
              show w8.ownsRow _ _ _ _ _ _
              rw [HNX.out, HCE.out]
              exact hO8
            have HS8 := HS7.out.grown hg8 (by simp; exact hgs)
            have HB8 := HB7.out.grown hg8 (by simp; omega)
            have HP8 := HP7.out.grown hg8 (by simp; omega)
            have HG8 := Lib.hid (HG7.out.trans hg8)
            clear hO8 hg8 b0 b1_
            go_wp2_with fail
            go_roundw
            case rel => exact ⟨k + 1, by omega, by go_num, HO8, HG8, HS8, HB8, HP8⟩
            case measure => simp [intOf]; omega
    · obtain rfl : k = ss.length := by omega
      rw [List.take_length] at HO
      have HF := Lib.hid HO.out
      clear HO
      go_wp2_with fail
      refine bodyPost_end (results_none rfl _ _ _) rfl ?_
      refine ⟨⟨_, rfl⟩, ?_, HG.out⟩
      rw [HCH.out]
      exact HF.out
end Go.Proofs.Ytbhdjalpkecbeaa
namespace Go.Proofs.Ytbhdjalpkecbeaa
set_option linter.unusedVariables false
set_option linter.unusedSimpArgs false
open Go.RowKit

def ow (pr : Int) : Nat := if pr = 17 then 26 else 36
theorem sumAt_any (pr : Int) (w : World) : Calls Try.prog 48 #[.int .i64 pr] w fun e w' => e = .returned (.int .i64 (ow pr : Int)) ∧ w' = w := by
  by_cases h : pr = 17
  · subst h
    go_enter Try.func48, Try.ntmps48
    go_wp2_with fail
    go_ret
    exact ⟨rfl, rfl⟩
  · have hb : (pr == 17) = false := beq_eq_false_iff_ne.2 h
    have e : (ow pr : Int) = 36 := by unfold ow; rw [if_neg h]; rfl
    rw [e]
    clear h e
    go_enter Try.func48, Try.ntmps48
    go_wp2_with fail
    go_ret
    exact ⟨rfl, rfl⟩
theorem change_n (base g n c at_ x gs k : Nat) (pr at' x' : Int) (ss : List Nat) (l : List UInt8) (w : World) (hk : ss.length = k) (hO : w.ownsRow base 5 1 (.slice (some ⟨g, 0, none⟩) n c) n (l.map bv)) (hn : l.length = n) (hl : n ≤ 2000) (hat : at_ + 1 < n) (hx : x ≤ 65535)
    (hS : Blk w gs 3 (ss.map fun s : Nat => Value.int .i64 (s : Int))) (hgs : gs ≠ g) (hss : ∀ s ∈ ss, s + 1 < n) (hsl : k ≤ 100) (ea : at' = (at_ : Int)) (ex : x' = (x : Int)) :
    Calls Try.prog 49 #[opv g n c pr, .int .i64 at', .int .u16 x', .slice (some ⟨gs, 0, none⟩) k k] w fun e w' => (∃ v, e = .returned v) ∧ w'.ownsRow base 5 1 (.slice (some ⟨g, 0, none⟩) n c) n ((chg (pr = 17) l at_ x ss).map bv) ∧ w.grownBy w' (some g) := by
  subst hk
  exact change_any base g n c at_ x gs pr at' x' ss l w hO hn hl hat hx hS hgs hss hsl ea ex
def sideN (pr : Int) (l : List UInt8) (a at_ port portAt : Nat) : List UInt8 :=
  chg (pr = 17) (chg (pr = 17) (chg (pr = 17) l at_ (a / 65536) [10, ow pr]) (at_ + 2) (a % 65536) [10, ow pr]) portAt port [ow pr]
theorem chg_len (udp : Prop) [Decidable udp] (l : List UInt8) (at_ x : Nat) (ss : List Nat) : (chg udp l at_ x ss).length = l.length := by unfold chg; rw [chgf_len, sw_len]
theorem ow_i (pr : Int) : IntKind.i64.wrap (ow pr : Int) = (ow pr : Int) := IntWalk.i64_in _ (by unfold ow; split <;> omega)
theorem grown_al' {w : World} (o : Obj) (row : Option Nat) : w.grownBy (w.alloc o) row := ⟨rfl, rfl, rfl, by simp, fun k hk _ => Below.heap_alloc w o k hk⟩
set_option maxRecDepth 100000 in
set_option maxHeartbeats 3200000 in
theorem side_any (base g n c a at_ port portAt : Nat) (pr a' at' port' portAt' : Int) (l : List UInt8) (w : World) (hO : w.ownsRow base 5 1 (.slice (some ⟨g, 0, none⟩) n c) n (l.map bv)) (hn : l.length = n) (hl : n ≤ 2000) (h28 : 28 ≤ n) (hat : at_ + 3 < n) (hpt : portAt + 1 < n) (hown : ow pr + 1 < n) (ha : a ≤ 4294967295) (hp : port ≤ 65535)
    (ea : a' = (a : Int)) (eat : at' = (at_ : Int)) (ep : port' = (port : Int)) (ept : portAt' = (portAt : Int)) :
    Calls Try.prog 33 #[opv g n c pr, .int .u32 a', .int .i64 at', .int .i64 port', .int .i64 portAt'] w fun e w' => (∃ v, e = .returned v) ∧ w'.ownsRow base 5 1 (.slice (some ⟨g, 0, none⟩) n c) n ((sideN pr l a at_ port portAt).map bv) ∧ w.grownBy w' (some g) := by
  subst ea eat ep ept
  have HN := Lib.hid hn
  have hgl : g < w.heap.size := (own_lt hO (show (Value.slice (some ⟨g, 0, none⟩) n c).ownBlock = some g by simp [Value.ownBlock])).2
  have hB : Blk (w.alloc (.cells #[.slice (some ⟨g, 0, none⟩) n c, .int .i64 pr] 65)) w.heap.size 65 [.slice (some ⟨g, 0, none⟩) n c, .int .i64 pr] := Blk.new w _ _
  have hgr : w.grownBy (w.alloc (.cells #[.slice (some ⟨g, 0, none⟩) n c, .int .i64 pr] 65)) (some g) := grown_al' _ _
  have hO1 := hO.alloc (.cells #[.slice (some ⟨g, 0, none⟩) n c, .int .i64 pr] 65)
  obtain ⟨hi, hhi⟩ : ∃ h, h = a / 65536 := ⟨_, rfl⟩
  obtain ⟨lo, hlo⟩ : ∃ h, h = a % 65536 := ⟨_, rfl⟩
  have u1 : (a : Int) / 65536 = (hi : Int) := by rw [hhi]; omega
  have u2 : IntKind.u16.wrap (hi : Int) = (hi : Int) := IntWalk.u16_in _ (by omega)
  have u3 : IntKind.u16.wrap (a : Int) = (lo : Int) := by rw [hlo]; simp [IntKind.wrap, IntKind.bits, IntKind.signed]
  have u4 : IntKind.u16.wrap (port : Int) = (port : Int) := IntWalk.u16_in _ (by omega)
  have u5 : IntKind.i64.wrap ((at_ : Int) + 2) = (at_ : Int) + 2 := IntWalk.i64_in _ (by omega)
  have hh1 : hi ≤ 65535 := by omega
  have hh2 : lo ≤ 65535 := by omega
  have HHI := Lib.hid hhi
  have HLO := Lib.hid hlo
  obtain ⟨ov, hov⟩ : ∃ v, ow pr = v := ⟨_, rfl⟩
  have HOV := Lib.hid hov
  rw [hov] at hown
  clear hO hn hhi hlo hov
  go_enter Try.func33, Try.ntmps33
  go_upto_region 1 with (fail)
  generalize hwg : w.heap.size = gb at *
  generalize w.alloc (.cells #[.slice (some ⟨g, 0, none⟩) n c, .int .i64 pr] 65) = wa at *
  have hbl : gb < wa.heap.size := hB.lt
  have b0 := hB.cell 0
  have b1_ := hB.cell 1
  simp only [List.getElem?_cons_zero, List.getElem?_cons_succ] at b0 b1_
  go_wp2_with fail
  (with_reducible refine (sumAt_any pr wa).mono ?_)
  rintro e w1 ⟨rfl, rfl⟩
  rw [HOV.out]
  have hS1 : Blk (w1.alloc (.cells #[.int .i64 10, .int .i64 (ov : Int)] 3)) w1.heap.size 3 ([10, ov].map fun s : Nat => Value.int .i64 (s : Int)) := Blk.new w1 _ _
  have hO2 := hO1.alloc (.cells #[.int .i64 10, .int .i64 (ov : Int)] 3)
  have hB2 := hB.alloc (.cells #[.int .i64 10, .int .i64 (ov : Int)] 3)
  have hg2 := hgr.trans (grown_al' (w := w1) (.cells #[.int .i64 10, .int .i64 (ov : Int)] 3) (some g))
  clear hO1 hB hgr
  go_wp2_with fail
  (with_reducible refine (change_n base g n c at_ hi w1.heap.size 2 pr _ _ [10, ov] l _ rfl hO2 HN.out hl (by omega) hh1 hS1 (by omega) (by simp; omega) (by omega) rfl rfl).mono ?_)
  rintro e w2 ⟨⟨v2, rfl⟩, hO3, hg3⟩
  have hB3 := hB2.grown hg3 (by simp; omega)
  have hg4 := hg2.trans hg3
  have HL1 : Hid ((chg (pr = 17) l at_ hi [10, ov]).length = n) := by show _ = _; rw [chg_len, HN.out]
  have hs2 : gb < w2.heap.size := hB3.lt
  have hgl2 : g < w2.heap.size := by omega
  obtain ⟨l1, hl1⟩ : ∃ l1, chg (pr = 17) l at_ hi [10, ov] = l1 := ⟨_, rfl⟩
  have HC1 := Lib.hid hl1
  rw [hl1] at hO3 HL1
  clear hl1 hO2 hB2 hg2 hg3 hS1 b0 b1_
  have b0 := hB3.cell 0
  have b1_ := hB3.cell 1
  simp only [List.getElem?_cons_zero, List.getElem?_cons_succ] at b0 b1_
  have hS1 : Blk (w2.alloc (.cells #[.int .i64 10, .int .i64 (ov : Int)] 3)) w2.heap.size 3 ([10, ov].map fun s : Nat => Value.int .i64 (s : Int)) := Blk.new w2 _ _
  have hO4 := hO3.alloc (.cells #[.int .i64 10, .int .i64 (ov : Int)] 3)
  have hB4 := hB3.alloc (.cells #[.int .i64 10, .int .i64 (ov : Int)] 3)
  have hg5 := hg4.trans (grown_al' (w := w2) (.cells #[.int .i64 10, .int .i64 (ov : Int)] 3) (some g))
  clear hO3 hB3 hg4
  go_wp2_with fail
  (with_reducible refine (change_n base g n c (at_ + 2) lo w2.heap.size 2 pr ((at_ : Int) + 2) _ [10, ov] l1 _ rfl hO4 HL1.out hl (by omega) hh2 hS1 (by omega) (by simp; omega) (by omega) (by omega) rfl).mono ?_)
  rintro e w3 ⟨⟨v3, rfl⟩, hO5, hg6⟩
  have hB5 := hB4.grown hg6 (by simp; omega)
  have hg7 := hg5.trans hg6
  have HL2 : Hid ((chg (pr = 17) l1 (at_ + 2) lo [10, ov]).length = n) := by show _ = _; rw [chg_len, HL1.out]
  have hs3 : gb < w3.heap.size := hB5.lt
  have hgl3 : g < w3.heap.size := by omega
  obtain ⟨l2, hl2⟩ : ∃ l2, chg (pr = 17) l1 (at_ + 2) lo [10, ov] = l2 := ⟨_, rfl⟩
  have HC2 := Lib.hid hl2
  rw [hl2] at hO5 HL2
  clear hl2 hO4 hB4 hg5 hg6 hS1 b0 b1_
  have b0 := hB5.cell 0
  have b1_ := hB5.cell 1
  simp only [List.getElem?_cons_zero, List.getElem?_cons_succ] at b0 b1_
  have hS1 : Blk (w3.alloc (.cells #[.int .i64 (ov : Int)] 3)) w3.heap.size 3 ([ov].map fun s : Nat => Value.int .i64 (s : Int)) := Blk.new w3 _ _
  have hO6 := hO5.alloc (.cells #[.int .i64 (ov : Int)] 3)
  have hg8 := hg7.trans (grown_al' (w := w3) (.cells #[.int .i64 (ov : Int)] 3) (some g))
  clear hO5 hg7
  go_wp2_with fail
  (with_reducible refine (change_n base g n c portAt port w3.heap.size 1 pr _ _ [ov] l2 _ rfl hO6 HL2.out hl hpt hp hS1 (by omega) (by simp; omega) (by omega) rfl rfl).mono ?_)
  rintro e w4 ⟨⟨v4, rfl⟩, hO7, hg9⟩
  have hg10 := hg8.trans hg9
  have HF : Hid (w4.ownsRow base 5 1 (.slice (some ⟨g, 0, none⟩) n c) n ((sideN pr l a at_ port portAt).map bv)) := by
    show w4.ownsRow _ _ _ _ _ _
    unfold sideN
    rw [HOV.out, ← HHI.out, ← HLO.out, HC1.out, HC2.out]
    exact hO7
  clear hO7 hO6 hS1 b0 b1_
  go_wp2_with fail
  refine bodyPost_end (results_none rfl _ _ _) rfl ?_
  exact ⟨⟨_, rfl⟩, HF.out, hg10⟩
end Go.Proofs.Ytbhdjalpkecbeaa
namespace Go.Proofs.Ytbhdjalpkecbeaa
set_option linter.unusedVariables false
set_option linter.unusedSimpArgs false
open Go.RowKit

abbrev opz : Value := .agg #[.slice none 0 0, .int .i64 0]
theorem rclone_n (xs : List UInt8) (A : Option Addr) (n c : Nat) (w : World) (hn : xs.length = n) (hA : RB w A xs) (hc : n ≤ c) (h0 : 0 < n) (hl : n ≤ 4000000) :
    Calls Try.prog 46 #[.slice A n c] w fun e w' => ∃ g k, e = .returned (.slice (some ⟨g, 0, none⟩) n k) ∧ Hid (w'.ownsRow w.heap.size 5 1 (.slice (some ⟨g, 0, none⟩) n k) n (xs.map bv)) ∧ w.heap.size ≤ g ∧ Below w.heap.size w w' := by
  subst hn
  refine (clone_any xs A c w hA hc hl).mono ?_
  rintro e w' ⟨v, rfl, hO, hb⟩
  obtain ⟨g, k, rfl, hg, -⟩ := own_headE hO h0
  exact ⟨g, k, rfl, hO, hg, hb⟩
theorem blk2v {w : World} {g : Nat} {t : TypeId} {a b : Value} (h : Blk w g t [a, b]) : w.cell? ⟨g, 0, none⟩ = some a ∧ w.cell? ⟨g, 1, none⟩ = some b := ⟨h.cell 0, h.cell 1⟩
theorem store2 {P : Program} {w : World} {g : Nat} {t : TypeId} {old : List Value} (cs : Array Value) (h : Blk w g t old) (ho : old.length = 2) (hl : cs.toList.length = 2) (h1 : ∀ v ∈ cs.toList, v.oneCell' = true) :
    (storeCells ⟨g, 0, none⟩ cs.toList).run P w = .ok () (w.setRow g cs) := by
  have h := store_all (P := P) (cs := cs.toList) h (by omega) h1
  simpa using h
set_option maxHeartbeats 1600000 in
theorem opened_no (b : List UInt8) (A : Option Addr) (n c : Nat) (w : World) (hn : b.length = n) (hA : RB w A b) (hc : n ≤ c) (h : ∀ p, ¬ IsPk b p) :
    Calls Try.prog 31 #[.slice A n c] w fun e w' => e = .returned (.tuple #[opz, er 2]) ∧ Below w.heap.size w w' := by
  have hb0 : Below w.heap.size w (w.alloc (.cells #[.slice none 0 0, .int .i64 0] 65)) := (Below.refl _ w).alloc (Nat.le_refl _) _
  have hG : Blk (w.alloc (.cells #[.slice none 0 0, .int .i64 0] 65)) w.heap.size 65 [.slice none 0 0, .int .i64 0] := Blk.new w _ _
  go_enter Try.func31, Try.ntmps31
  go_wp2_with fail
  generalize w.alloc (.cells #[.slice none 0 0, .int .i64 0] 65) = wa at *
  (with_reducible refine (flow_bad b A n c wa hn (hA.below hb0) hc h).mono ?_)
  rintro e w1 ⟨rfl, hb1⟩
  clear h
  obtain ⟨f, hf⟩ : ∃ f, f = fl0 := ⟨_, rfl⟩
  rw [← hf]
  clear hf
  obtain ⟨fs, hfs⟩ : ∃ fs : Array Value, #[.int .i64 f.proto, .int .u32 f.src, .int .i64 f.sp, .int .u32 f.dst, .int .i64 f.dp] = fs := ⟨_, rfl⟩
  have hsz : fs.size = 5 := by rw [← hfs]; rfl
  have hst := store5n (P := Try.prog) w1 fs (by rw [← hfs]; rfl) (by rw [← hfs]; exact fl_one f)
  have hN : Below w1.heap.size w1 ((w1.alloc (.cells #[.int .i64 0, .int .u32 0, .int .i64 0, .int .u32 0, .int .i64 0] 26)).setRow w1.heap.size fs) := below_row (below_al (Below.refl _ w1) _) (Nat.le_refl _)
  have hFB : Blk ((w1.alloc (.cells #[.int .i64 0, .int .u32 0, .int .i64 0, .int .u32 0, .int .i64 0] 26)).setRow w1.heap.size fs) w1.heap.size 26 (flc f) := by rw [← hfs]; exact (Blk.new w1 26 (flc fl0)).row _
  have hC2 := below_call hb1 hN
  have hzg2 := hb1.size
  clear hN hb1
  generalize hgg : w1.heap.size = g2 at *
  go_upto_region 2 with (fail)
  generalize (w1.alloc (.cells #[.int .i64 0, .int .u32 0, .int .i64 0, .int .u32 0, .int .i64 0] 26)).setRow g2 fs = w2 at *
  clear hst hfs hsz
  have hG2 := hG.kept hC2
  have hb2 := below_call hb0 hC2
  have hst := store2 (P := Try.prog) #[.slice none 0 0, .int .i64 0] hG2 rfl rfl (by simp [Value.oneCell'])
  have hB7 : Blk (w2.setRow w.heap.size #[.slice none 0 0, .int .i64 0]) w.heap.size 65 [.slice none 0 0, .int .i64 0] := hG2.row _
  have hb7 : Below w.heap.size w (w2.setRow w.heap.size #[.slice none 0 0, .int .i64 0]) := below_row hb2 (Nat.le_refl _)
  obtain ⟨cs, hcs⟩ : ∃ cs : Array Value, #[.slice none 0 0, .int .i64 0] = cs := ⟨_, rfl⟩
  have hcz : cs.size = 2 := by rw [← hcs]; rfl
  rw [hcs] at hst hB7 hb7
  generalize w2.setRow w.heap.size cs = w7 at *
  clear hFB
  go_wp2_with fail
  obtain ⟨r0, r1⟩ := blk2v hB7
  (try simp only [Exit.inBlock, Exit.then])
  refine bodyPost_ret (by simp [results, Try.results31, go_sem, r0, r1]; try rfl) rfl ?_
  exact ⟨rfl, hb7⟩
set_option maxRecDepth 100000 in
set_option maxHeartbeats 3200000 in
theorem opened_yes (b : List UInt8) (p : Pk) (A : Option Addr) (n c : Nat) (w : World) (hn : b.length = n) (hA : RB w A b) (hc : n ≤ c) (h : IsPk b p) :
    Calls Try.prog 31 #[.slice A n c] w fun e w' => ∃ g k, e = .returned (.tuple #[opv g n k p.fl.proto, .nilIface]) ∧ Hid (w'.ownsRow w.heap.size 5 1 (.slice (some ⟨g, 0, none⟩) n k) n (b.map bv)) ∧ Below w.heap.size w w' := by
  have hb0 : Below w.heap.size w (w.alloc (.cells #[.slice none 0 0, .int .i64 0] 65)) := (Below.refl _ w).alloc (Nat.le_refl _) _
  have hG : Blk (w.alloc (.cells #[.slice none 0 0, .int .i64 0] 65)) w.heap.size 65 [.slice none 0 0, .int .i64 0] := Blk.new w _ _
  have hsh := isPk_shape h
  have hn28 : 28 ≤ n := by have := hsh.1; omega
  have hn15 : n ≤ 1500 := by have := hsh.2.1; omega
  have HN := Lib.hid hn
  clear hsh hn
  go_enter Try.func31, Try.ntmps31
  go_wp2_with fail
  generalize w.alloc (.cells #[.slice none 0 0, .int .i64 0] 65) = wa at *
  have hgl : w.heap.size < wa.heap.size := hG.lt
  (with_reducible refine (flow_good b p A n c wa HN.out (hA.below hb0) hc h).mono ?_)
  rintro e w1 ⟨rfl, hb1⟩
  clear h
  obtain ⟨f, hf⟩ : ∃ f, f = p.fl := ⟨_, rfl⟩
  have HFL := Lib.hid hf
  rw [← hf]
  clear hf
  obtain ⟨fs, hfs⟩ : ∃ fs : Array Value, #[.int .i64 f.proto, .int .u32 f.src, .int .i64 f.sp, .int .u32 f.dst, .int .i64 f.dp] = fs := ⟨_, rfl⟩
  have hsz : fs.size = 5 := by rw [← hfs]; rfl
  have hst := store5n (P := Try.prog) w1 fs (by rw [← hfs]; rfl) (by rw [← hfs]; exact fl_one f)
  have hN : Below w1.heap.size w1 ((w1.alloc (.cells #[.int .i64 0, .int .u32 0, .int .i64 0, .int .u32 0, .int .i64 0] 26)).setRow w1.heap.size fs) := below_row (below_al (Below.refl _ w1) _) (Nat.le_refl _)
  have hFB : Blk ((w1.alloc (.cells #[.int .i64 0, .int .u32 0, .int .i64 0, .int .u32 0, .int .i64 0] 26)).setRow w1.heap.size fs) w1.heap.size 26 (flc f) := by rw [← hfs]; exact (Blk.new w1 26 (flc fl0)).row _
  have hC2 := below_call hb1 hN
  have hzg2 := hb1.size
  clear hN hb1
  generalize hgg : w1.heap.size = g2 at *
  go_upto_region 4 with (fail)
  generalize (w1.alloc (.cells #[.int .i64 0, .int .u32 0, .int .i64 0, .int .u32 0, .int .i64 0] 26)).setRow g2 fs = w2 at *
  clear hst hfs hsz
  have hG2 := hG.kept hC2
  have hA2 := (hA.below hb0).below hC2
  have hb2 := below_call hb0 hC2
  have hs2 := hC2.size
  obtain ⟨a0, -, -, -, -⟩ := blk5 hFB
  have hcur : Below w2.heap.size w2 w2.drew := Below.drew (Below.refl _ w2)
  have y0 : w2.drew.cell? ⟨g2, 0, none⟩ = some (.int .i64 f.proto) := a0
  go_region_held3 (fun w' => w'.cell? ⟨g2, 0, none⟩ = some (.int .i64 f.proto))
    (first | with_reducible exact y0 | with_reducible exact keep1 hcur a0 | with_reducible exact cell_keep hcur a0 | with_reducible exact zk)
    (first
      | (go_at_call 46; (with_reducible refine (rclone_n b A n c _ HN.out (hA2.below hcur) hc (by omega) (by omega)).mono ?_); rintro e w3 ⟨g, k, rfl, HO, hg3, hb3⟩; have hsc := hcur.size; replace hcur := below_call hcur hb3; have hG3 := hG2.kept hcur; obtain ⟨cs, hcs⟩ : ∃ cs : Array Value, #[.slice (some ⟨g, 0, none⟩) n k, .int .i64 f.proto] = cs := ⟨_, rfl⟩; have hcz : cs.size = 2 := (by rw [← hcs]; rfl); have hst := store2 (P := Try.prog) cs hG3 rfl (by rw [← hcs]; rfl) (by rw [← hcs]; simp [Value.oneCell']); have hB7 : Blk (w3.setRow w.heap.size cs) w.heap.size 65 [.slice (some ⟨g, 0, none⟩) n k, .int .i64 f.proto] := (by rw [← hcs]; exact hG3.row _); have hb7 : Below w.heap.size w (w3.setRow w.heap.size cs) := below_row (below_call hb2 hcur) (Nat.le_refl _); have HO7 : Hid ((w3.setRow w.heap.size cs).ownsRow w.heap.size 5 1 (.slice (some ⟨g, 0, none⟩) n k) n (b.map bv)) := own_weaken (own_row (g := w.heap.size) (c := cs) (by omega) (own_weaken HO.out hsc)) (by omega); have zk : (w3.setRow w.heap.size cs).cell? ⟨g2, 0, none⟩ = some (.int .i64 f.proto) := (by have hF3 := (hFB.kept hcur).row_far (b := w.heap.size) (c := cs) (by omega); exact (blk5 hF3).1)))
  all_goals
    go_wp2_with fail
    obtain ⟨r0, r1⟩ := blk2v hB7
    (try simp only [Exit.inBlock, Exit.then])
    refine bodyPost_ret (by simp [results, Try.results31, go_sem, r0, r1]; try rfl) rfl ?_
    refine ⟨g, k, ?_, HO7.out, hb7⟩
    rw [HFL.out]
set_option maxHeartbeats 1600000 in
theorem one_no (b : List UInt8) (A : Option Addr) (n c : Nat) (a at' port portAt : Int) (w : World) (hn : b.length = n) (hA : RB w A b) (hc : n ≤ c) (h : ∀ p, ¬ IsPk b p) :
    Calls Try.prog 26 #[.slice A n c, .int .u32 a, .int .i64 at', .int .i64 port, .int .i64 portAt] w fun e w' => e = .returned (.tuple #[.slice none 0 0, er 2]) ∧ Below w.heap.size w w' := by
  go_enter Try.func26, Try.ntmps26
  go_wp2_with fail
  (with_reducible refine (opened_no b A n c w hn hA hc h).mono ?_)
  rintro e w1 ⟨rfl, hb1⟩
  clear h
  obtain ⟨w2, hst, hC2⟩ : ∃ w2, (storeCells ⟨w1.heap.size, 0, none⟩ (#[.slice none 0 0, .int .i64 0] : Array Value).toList).run Try.prog (w1.alloc (.cells #[.slice none 0 0, .int .i64 0] 65)) = .ok () w2 ∧ Below w.heap.size w w2 := ⟨_, store2 #[.slice none 0 0, .int .i64 0] (Blk.new w1 65 [.slice none 0 0, .int .i64 0]) rfl rfl (by simp [Value.oneCell']), below_row (below_al hb1 _) hb1.size⟩
  obtain ⟨cs, hcs⟩ : ∃ cs : Array Value, #[.slice none 0 0, .int .i64 0] = cs := ⟨_, rfl⟩
  have hsz : cs.size = 2 := by rw [← hcs]; rfl
  rw [hcs] at hst
  go_upto_region 2 with (fail)
  clear hst hcs hsz
  go_wp2_with fail
  go_ret2
  exact ⟨rfl, hC2⟩
set_option maxHeartbeats 1600000 in
theorem one_port (b : List UInt8) (p : Pk) (A : Option Addr) (n c : Nat) (a at' port portAt : Int) (w : World) (hn : b.length = n) (hA : RB w A b) (hc : n ≤ c) (h : IsPk b p) (hp : port < 0 ∨ 65535 < port) :
    Calls Try.prog 26 #[.slice A n c, .int .u32 a, .int .i64 at', .int .i64 port, .int .i64 portAt] w fun e w' => e = .returned (.tuple #[.slice none 0 0, er 9]) ∧ Below w.heap.size w w' := by
  go_enter Try.func26, Try.ntmps26
  go_wp2_with fail
  (with_reducible refine (opened_yes b p A n c w hn hA hc h).mono ?_)
  rintro e w1 ⟨g, k, rfl, HO, hb1⟩
  clear h
  generalize p.fl.proto = pr at ⊢
  obtain ⟨cs, hcs⟩ : ∃ cs : Array Value, #[.slice (some ⟨g, 0, none⟩) n k, .int .i64 pr] = cs := ⟨_, rfl⟩
  have hsz : cs.size = 2 := by rw [← hcs]; rfl
  have hst : (storeCells ⟨w1.heap.size, 0, none⟩ cs.toList).run Try.prog (w1.alloc (.cells #[.slice none 0 0, .int .i64 0] 65)) = .ok () ((w1.alloc (.cells #[.slice none 0 0, .int .i64 0] 65)).setRow w1.heap.size cs) := store2 cs (Blk.new w1 65 [.slice none 0 0, .int .i64 0]) rfl (by rw [← hcs]; rfl) (by rw [← hcs]; simp [Value.oneCell'])
  have hNN : Below w1.heap.size w1 ((w1.alloc (.cells #[.slice none 0 0, .int .i64 0] 65)).setRow w1.heap.size cs) := below_row (below_al (Below.refl _ w1) _) (Nat.le_refl _)
  have hPB : Blk ((w1.alloc (.cells #[.slice none 0 0, .int .i64 0] 65)).setRow w1.heap.size cs) w1.heap.size 65 [.slice (some ⟨g, 0, none⟩) n k, .int .i64 pr] := by rw [← hcs]; exact (Blk.new w1 65 [.slice none 0 0, .int .i64 0]).row _
  have hC2 := below_call hb1 hNN
  obtain ⟨g2, hg2⟩ : ∃ g2, w1.heap.size = g2 := ⟨_, rfl⟩
  rw [hg2] at hst hPB
  obtain ⟨w2, hw2⟩ : ∃ w2, (w1.alloc (.cells #[.slice none 0 0, .int .i64 0] 65)).setRow w1.heap.size cs = w2 := ⟨_, rfl⟩
  rw [hw2] at hNN hC2
  rw [hg2] at hw2
  rw [hw2] at hst hPB
  go_upto_region 2 with (fail)
  clear hst hcs hsz hw2
  rcases hp with hp | hp
  · have q1 : decide (port < 0) = true := decide_eq_true hp
    go_wp2_with fail
    go_ret2
    exact ⟨rfl, hC2⟩
  · have q1 : decide (port < 0) = false := decide_eq_false (by omega)
    have q2 : decide (65535 < port) = true := decide_eq_true hp
    go_wp2_with fail
    go_ret2
    exact ⟨rfl, hC2⟩
set_option maxHeartbeats 1600000 in
theorem one_good (b : List UInt8) (p : Pk) (A : Option Addr) (n c a at_ port portAt : Nat) (a' at' port' portAt' : Int) (w : World) (hn : b.length = n) (hA : RB w A b) (hc : n ≤ c) (h : IsPk b p) (ha : a ≤ 4294967295) (hp : port ≤ 65535) (hat : at_ + 3 < 28) (hpt : portAt + 1 < 28)
    (ea : a' = (a : Int)) (eat : at' = (at_ : Int)) (ep : port' = (port : Int)) (ept : portAt' = (portAt : Int)) :
    Calls Try.prog 26 #[.slice A n c, .int .u32 a', .int .i64 at', .int .i64 port', .int .i64 portAt'] w fun e w' => ∃ v, e = .returned (.tuple #[v, .nilIface]) ∧ w'.ownsRow w.heap.size 5 1 v n ((sideB p b a at_ port portAt).map bv) ∧ Below w.heap.size w w' := by
  subst ea eat ep ept
  have hsh := isPk_shape h
  have hn28 : 28 ≤ n := by have := hsh.1; omega
  have hn15 : n ≤ 1500 := by have := hsh.2.1; omega
  have hown : ow p.fl.proto + 1 < n := by
    have hpr := h.1.1.1
    have h9 := hsh.2.2.1
    have e9 : p.fl.proto = (b1 b 9 : Int) := by rw [isPk_opn h]; exact (opn_fl b).1
    unfold ow
    split <;> omega
  have HSB : Hid (sideB p b a at_ port portAt = sideN p.fl.proto b a at_ port portAt) := rfl
  have q1 : ¬ ((port : Int) < 0) := by omega
  have q2 : ¬ ((65535 : Int) < (port : Int)) := by omega
  have HN := Lib.hid hn
  clear hsh hn
  go_enter Try.func26, Try.ntmps26
  go_wp2_with fail
  (with_reducible refine (opened_yes b p A n c w HN.out hA hc h).mono ?_)
  rintro e w1 ⟨g, k, rfl, HO, hb1⟩
  clear h
  generalize p.fl.proto = pr at *
  obtain ⟨cs, hcs⟩ : ∃ cs : Array Value, #[.slice (some ⟨g, 0, none⟩) n k, .int .i64 pr] = cs := ⟨_, rfl⟩
  have hsz : cs.size = 2 := by rw [← hcs]; rfl
  have hst : (storeCells ⟨w1.heap.size, 0, none⟩ cs.toList).run Try.prog (w1.alloc (.cells #[.slice none 0 0, .int .i64 0] 65)) = .ok () ((w1.alloc (.cells #[.slice none 0 0, .int .i64 0] 65)).setRow w1.heap.size cs) := store2 cs (Blk.new w1 65 [.slice none 0 0, .int .i64 0]) rfl (by rw [← hcs]; rfl) (by rw [← hcs]; simp [Value.oneCell'])
  have hNN : Below w1.heap.size w1 ((w1.alloc (.cells #[.slice none 0 0, .int .i64 0] 65)).setRow w1.heap.size cs) := below_row (below_al (Below.refl _ w1) _) (Nat.le_refl _)
  have hPB : Blk ((w1.alloc (.cells #[.slice none 0 0, .int .i64 0] 65)).setRow w1.heap.size cs) w1.heap.size 65 [.slice (some ⟨g, 0, none⟩) n k, .int .i64 pr] := by rw [← hcs]; exact (Blk.new w1 65 [.slice none 0 0, .int .i64 0]).row _
  have hC2 := below_call hb1 hNN
  obtain ⟨g2, hg2⟩ : ∃ g2, w1.heap.size = g2 := ⟨_, rfl⟩
  rw [hg2] at hst hPB
  obtain ⟨w2, hw2⟩ : ∃ w2, (w1.alloc (.cells #[.slice none 0 0, .int .i64 0] 65)).setRow w1.heap.size cs = w2 := ⟨_, rfl⟩
  rw [hw2] at hNN hC2
  rw [hg2] at hw2
  rw [hw2] at hst hPB
  go_upto_region 2 with (fail)
  clear hst hcs hsz hw2
  have HO2 := Lib.hid (own_below HO.out hNN)
  obtain ⟨b0, b1_⟩ := blk2v hPB
  have hgne : g2 ≠ g := by
    have h1 := (own_lt HO.out (show (Value.slice (some ⟨g, 0, none⟩) n k).ownBlock = some g by simp [Value.ownBlock])).2
    omega
  go_wp2_with fail
  (with_reducible refine (side_any w.heap.size g n k a at_ port portAt pr _ _ _ _ b w2 HO2.out HN.out (by omega) hn28 (by omega) (by omega) hown ha hp rfl rfl rfl rfl).mono ?_)
  rintro e w3 ⟨⟨v3, rfl⟩, hO3, hg3⟩
  have hPB3 := hPB.grown hg3 (by simp; exact hgne)
  have hfin : Below w.heap.size w w3 := hC2.grown hg3 hC2.size (fun j e => by
    have h1 := (own_lt HO.out (show (Value.slice (some ⟨g, 0, none⟩) n k).ownBlock = some g by simp [Value.ownBlock])).1
    injection e with e
    omega)
  rw [← HSB.out] at hO3
  have HO3 := Lib.hid hO3
  clear hO3 hg3 b0 b1_
  obtain ⟨b0, b1_⟩ := blk2v hPB3
  go_wp2_with fail
  go_ret2
  exact ⟨_, rfl, HO3.out, hfin⟩
set_option maxHeartbeats 800000 in
theorem source_no (b : List UInt8) (A : Option Addr) (n c : Nat) (a port : Int) (w : World) (hn : b.length = n) (hA : RB w A b) (hc : n ≤ c) (h : ∀ p, ¬ IsPk b p) :
    Calls Try.prog 18 #[.slice A n c, .int .u32 a, .int .i64 port] w fun e w' => e = .returned (.tuple #[.slice none 0 0, er 2]) ∧ Below w.heap.size w w' := by
  go_enter Try.func18, Try.ntmps18
  go_wp2_with fail
  (with_reducible refine (one_no b A n c a 12 port 20 w hn hA hc h).mono ?_)
  rintro e w1 ⟨rfl, hb1⟩
  clear h
  go_wp2_with fail
  go_ret2
  exact ⟨rfl, hb1⟩
set_option maxHeartbeats 800000 in
theorem source_port (b : List UInt8) (p : Pk) (A : Option Addr) (n c : Nat) (a port : Int) (w : World) (hn : b.length = n) (hA : RB w A b) (hc : n ≤ c) (h : IsPk b p) (hp : port < 0 ∨ 65535 < port) :
    Calls Try.prog 18 #[.slice A n c, .int .u32 a, .int .i64 port] w fun e w' => e = .returned (.tuple #[.slice none 0 0, er 9]) ∧ Below w.heap.size w w' := by
  have HP := Lib.hid hp
  clear hp
  go_enter Try.func18, Try.ntmps18
  go_wp2_with fail
  (with_reducible refine (one_port b p A n c a 12 port 20 w hn hA hc h HP.out).mono ?_)
  rintro e w1 ⟨rfl, hb1⟩
  clear h
  go_wp2_with fail
  go_ret2
  exact ⟨rfl, hb1⟩
set_option maxHeartbeats 800000 in
theorem source_good (b : List UInt8) (p : Pk) (A : Option Addr) (n c : Nat) (a port : Int) (w : World) (hn : b.length = n) (hA : RB w A b) (hc : n ≤ c) (h : IsPk b p) (ha : 0 ≤ a ∧ a ≤ 4294967295) (hp : 0 ≤ port ∧ port ≤ 65535) :
    Calls Try.prog 18 #[.slice A n c, .int .u32 a, .int .i64 port] w fun e w' => ∃ v, e = .returned (.tuple #[v, .nilIface]) ∧ w'.ownsRow w.heap.size 5 1 v n ((build (setSrc p a port)).map bv) ∧ Below w.heap.size w w' := by
  obtain ⟨a, rfl⟩ := Int.eq_ofNat_of_zero_le ha.1
  obtain ⟨port, rfl⟩ := Int.eq_ofNat_of_zero_le hp.1
  have ha2 : a ≤ 4294967295 := by omega
  have hp2 : port ≤ 65535 := by omega
  have HB : Hid (sideB p b a 12 port 20 = build (setSrc p a port)) := by
    show sideB p b a 12 port 20 = _
    rw [← side_src p h.1 h.2.1 a port ha2 hp2, h.2.2]
  clear ha hp
  go_enter Try.func18, Try.ntmps18
  go_wp2_with fail
  (with_reducible refine (one_good b p A n c a 12 port 20 _ 12 _ 20 w hn hA hc h ha2 hp2 (by omega) (by omega) rfl rfl rfl rfl).mono ?_)
  rintro e w1 ⟨v, rfl, hO, hb1⟩
  rw [HB.out] at hO
  have HO := Lib.hid hO
  clear h hO
  go_wp2_with fail
  go_ret2
  exact ⟨_, rfl, HO.out, hb1⟩
set_option maxHeartbeats 800000 in
theorem dest_no (b : List UInt8) (A : Option Addr) (n c : Nat) (a port : Int) (w : World) (hn : b.length = n) (hA : RB w A b) (hc : n ≤ c) (h : ∀ p, ¬ IsPk b p) :
    Calls Try.prog 10 #[.slice A n c, .int .u32 a, .int .i64 port] w fun e w' => e = .returned (.tuple #[.slice none 0 0, er 2]) ∧ Below w.heap.size w w' := by
  go_enter Try.func10, Try.ntmps10
  go_wp2_with fail
  (with_reducible refine (one_no b A n c a 16 port 22 w hn hA hc h).mono ?_)
  rintro e w1 ⟨rfl, hb1⟩
  clear h
  go_wp2_with fail
  go_ret2
  exact ⟨rfl, hb1⟩
set_option maxHeartbeats 800000 in
theorem dest_port (b : List UInt8) (p : Pk) (A : Option Addr) (n c : Nat) (a port : Int) (w : World) (hn : b.length = n) (hA : RB w A b) (hc : n ≤ c) (h : IsPk b p) (hp : port < 0 ∨ 65535 < port) :
    Calls Try.prog 10 #[.slice A n c, .int .u32 a, .int .i64 port] w fun e w' => e = .returned (.tuple #[.slice none 0 0, er 9]) ∧ Below w.heap.size w w' := by
  have HP := Lib.hid hp
  clear hp
  go_enter Try.func10, Try.ntmps10
  go_wp2_with fail
  (with_reducible refine (one_port b p A n c a 16 port 22 w hn hA hc h HP.out).mono ?_)
  rintro e w1 ⟨rfl, hb1⟩
  clear h
  go_wp2_with fail
  go_ret2
  exact ⟨rfl, hb1⟩
set_option maxHeartbeats 800000 in
theorem dest_good (b : List UInt8) (p : Pk) (A : Option Addr) (n c : Nat) (a port : Int) (w : World) (hn : b.length = n) (hA : RB w A b) (hc : n ≤ c) (h : IsPk b p) (ha : 0 ≤ a ∧ a ≤ 4294967295) (hp : 0 ≤ port ∧ port ≤ 65535) :
    Calls Try.prog 10 #[.slice A n c, .int .u32 a, .int .i64 port] w fun e w' => ∃ v, e = .returned (.tuple #[v, .nilIface]) ∧ w'.ownsRow w.heap.size 5 1 v n ((build (setDst p a port)).map bv) ∧ Below w.heap.size w w' := by
  obtain ⟨a, rfl⟩ := Int.eq_ofNat_of_zero_le ha.1
  obtain ⟨port, rfl⟩ := Int.eq_ofNat_of_zero_le hp.1
  have ha2 : a ≤ 4294967295 := by omega
  have hp2 : port ≤ 65535 := by omega
  have HB : Hid (sideB p b a 16 port 22 = build (setDst p a port)) := by
    show sideB p b a 16 port 22 = _
    rw [← side_dst p h.1 h.2.1 a port ha2 hp2, h.2.2]
  clear ha hp
  go_enter Try.func10, Try.ntmps10
  go_wp2_with fail
  (with_reducible refine (one_good b p A n c a 16 port 22 _ 16 _ 22 w hn hA hc h ha2 hp2 (by omega) (by omega) rfl rfl rfl rfl).mono ?_)
  rintro e w1 ⟨v, rfl, hO, hb1⟩
  rw [HB.out] at hO
  have HO := Lib.hid hO
  clear h hO
  go_wp2_with fail
  go_ret2
  exact ⟨_, rfl, HO.out, hb1⟩
end Go.Proofs.Ytbhdjalpkecbeaa
