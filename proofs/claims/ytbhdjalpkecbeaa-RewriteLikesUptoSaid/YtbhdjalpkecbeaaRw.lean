/- The walks of open.word, open.set. -/
import Derived.Test.YtbhdjalpkecbeaaTwo
import Derived.Test.YtbhdjalpkecbeaaRwPure
import Derived.Test.YtbhdjalpkecbeaaOpn
import Derived.Deep.RegionHeld3
namespace Go.Proofs.Ytbhdjalpkecbeaa
set_option linter.unusedVariables false
set_option linter.unusedSimpArgs false
open Go.RowKit

theorem u16_join8 (x y : Nat) (hx : x < 256) (hy : y < 256) : bits .or .u16 ((x * 256 : Nat) : Int) (y : Int) = ((256 * x + y : Nat) : Int) := by
  have key : (BitVec.ofInt 16 ((x * 256 : Nat) : Int) ||| BitVec.ofInt 16 (y : Int)).toNat = x * 256 + y := by
    rw [BitVec.toNat_or, BitVec.ofInt_natCast, BitVec.ofInt_natCast, BitVec.toNat_ofNat, BitVec.toNat_ofNat, Nat.mod_eq_of_lt (by omega), Nat.mod_eq_of_lt (by omega)]
    exact nat_join 8 (x * 256) y (by omega) (by omega)
  show IntKind.u16.wrap ((BitVec.ofInt 16 ((x * 256 : Nat) : Int) ||| BitVec.ofInt 16 (y : Int)).toNat : Nat) = _
  rw [key, IntWalk.u16_in _ (by omega)]
  omega
theorem far1' {w : World} {k o g i : Nat} {u v : Value} (h : w.cell? ⟨k, o, none⟩ = some u) (hne : k ≠ g) : (w.setCell ⟨g, i, none⟩ v).cell? ⟨k, o, none⟩ = some u := by
  rw [← h]
  unfold World.cell?
  rw [Below.heap_setCell _ _ _ _ hne]
theorem far1d {w : World} {k o g i : Nat} {u v : Value} (h : w.cell? ⟨k, o, none⟩ = some u) (hne : k ≠ g) : (w.setCell ⟨g, i, none⟩ v).drew.cell? ⟨k, o, none⟩ = some u := far1' h hne
theorem far2d {w : World} {k o g i j : Nat} {u v v2 : Value} (h : w.cell? ⟨k, o, none⟩ = some u) (hne : k ≠ g) : ((w.setCell ⟨g, i, none⟩ v).setCell ⟨g, j, none⟩ v2).drew.cell? ⟨k, o, none⟩ = some u := far1' (far1' h hne) hne
/-- A packet's bytes, open: a slice and a protocol. -/
abbrev opv (g n c : Nat) (pr : Int) : Value := .agg #[.slice (some ⟨g, 0, none⟩) n c, .int .i64 pr]
set_option maxHeartbeats 1600000 in
theorem word_any (base g n c i : Nat) (i' pr : Int) (l : List UInt8) (w : World) (hO : w.ownsRow base 5 1 (.slice (some ⟨g, 0, none⟩) n c) n (l.map bv)) (hn : l.length = n) (hl : n ≤ 4000000) (hi : i + 1 < n) (ei : i' = (i : Int)) :
    Calls Try.prog 62 #[opv g n c pr, .int .i64 i'] w fun e w' => e = .returned (.int .u16 (b2 l i : Int)) ∧ Below w.heap.size w w' := by
  subst ei
  have HN := Lib.hid hn
  have c0 := own_cellE (hO.alloc (.cells #[.slice (some ⟨g, 0, none⟩) n c, .int .i64 pr] 65)) i (by omega)
  have c1 := own_cellE (hO.alloc (.cells #[.slice (some ⟨g, 0, none⟩) n c, .int .i64 pr] 65)) (i + 1) (by omega)
  rw [List.getElem?_map, List.getElem?_eq_getElem (by omega)] at c0 c1
  simp only [Option.map_some] at c0 c1
  have e0 : b1 l i = (l[i]'(by omega)).toNat := by unfold b1; simp [List.getD, List.getElem?_eq_getElem (show i < l.length by omega)]
  have e1 : b1 l (i + 1) = (l[i + 1]'(by omega)).toNat := by unfold b1; simp [List.getD, List.getElem?_eq_getElem (show i + 1 < l.length by omega)]
  have HE : Hid (b2 l i = 256 * (l[i]'(by omega)).toNat + (l[i + 1]'(by omega)).toNat) := by show b2 l i = _; unfold b2; rw [e0, e1]
  clear e0 e1 hO
  generalize l[i]'(by omega) = x at *
  generalize l[i + 1]'(by omega) = y at *
  clear hn
  have hxl := x.toNat_lt
  have hyl := y.toNat_lt
  have hB : Blk (w.alloc (.cells #[.slice (some ⟨g, 0, none⟩) n c, .int .i64 pr] 65)) w.heap.size 65 [.slice (some ⟨g, 0, none⟩) n c, .int .i64 pr] := Blk.new w _ _
  have hb : Below w.heap.size w (w.alloc (.cells #[.slice (some ⟨g, 0, none⟩) n c, .int .i64 pr] 65)) := (Below.refl _ w).alloc (Nat.le_refl _) _
  have w1 : IntKind.u16.wrap (x.toNat : Int) = (x.toNat : Int) := IntWalk.u16_in _ (by omega)
  have w2 : IntKind.u16.wrap ((x.toNat : Int) * 256) = ((x.toNat * 256 : Nat) : Int) := by rw [IntWalk.u16_in _ (by omega)]; omega
  have w3 : IntKind.u16.wrap (y.toNat : Int) = (y.toNat : Int) := IntWalk.u16_in _ (by omega)
  have w4 := u16_join8 x.toNat y.toNat hxl hyl
  rw [← HE.out] at w4
  obtain ⟨z, hz⟩ : ∃ z, x.toNat * 256 = z := ⟨_, rfl⟩
  rw [hz] at w2 w4
  clear hz
  have i1 : (i : Int) < (n : Int) := by omega
  have i2 : (i : Int) + 1 < (n : Int) := by omega
  have i0 : (0 : Int) ≤ (i : Int) := by omega
  have i3 : (0 : Int) ≤ (i : Int) + 1 := by omega
  have i4 : ((i : Int) + 1).toNat = i + 1 := by omega
  have i5 : IntKind.i64.wrap ((i : Int) + 1) = (i : Int) + 1 := IntWalk.i64_in _ (by omega)
  go_enter Try.func62, Try.ntmps62
  go_upto_region 1 with (fail)
  generalize w.alloc (.cells #[.slice (some ⟨g, 0, none⟩) n c, .int .i64 pr] 65) = wa at *
  have b0 := hB.cell 0
  simp only [List.getElem?_cons_zero] at b0
  go_wp2_with fail
  go_quiet (fail)
  go_wp2_with fail
  go_ret
  exact ⟨rfl, ⟨hb.os, hb.tape, hb.output, hb.size, hb.block⟩⟩
set_option maxHeartbeats 1600000 in
theorem set_any (base g c i n x : Nat) (i' pr : Int) (l : List UInt8) (w : World) (hO : w.ownsRow base 5 1 (.slice (some ⟨g, 0, none⟩) n c) n (l.map bv)) (hn : l.length = n) (hl : n ≤ 4000000) (hi : i + 1 < n) (hx : x ≤ 65535) (ei : i' = (i : Int)) :
    Calls Try.prog 63 #[opv g n c pr, .int .i64 i', .int .u16 (x : Int)] w fun e w' => (∃ v, e = .returned v) ∧ w'.ownsRow base 5 1 (.slice (some ⟨g, 0, none⟩) n c) n ((sw l i x).map bv) ∧ w.grownBy w' (some g) := by
  subst ei
  have HN := Lib.hid hn
  have hgl : g < w.heap.size := (own_lt hO (show (Value.slice (some ⟨g, 0, none⟩) n c).ownBlock = some g by simp [Value.ownBlock])).2
  obtain ⟨a, he, HX⟩ : ∃ a : UInt8, (x : Int) / 256 = (a.toNat : Int) ∧ Hid (a = UInt8.ofNat (x / 256)) := ⟨UInt8.ofNat (x / 256), by rw [UInt8.toNat_ofNat']; omega, rfl⟩
  obtain ⟨d, hf, HY⟩ : ∃ y : UInt8, (x : Int) % 256 = (y.toNat : Int) ∧ Hid (y = UInt8.ofNat x) := ⟨UInt8.ofNat x, by rw [UInt8.toNat_ofNat']; omega, rfl⟩
  have hal : (a.toNat : Int) % 256 = (a.toNat : Int) := by have := a.toNat_lt; omega
  have hal2 : IntKind.u8.wrap (a.toNat : Int) = (a.toNat : Int) := IntWalk.u8_in _ (by have := a.toNat_lt; omega)
  have hf2 : IntKind.u8.wrap (x : Int) = (d.toNat : Int) := by rw [← hf]; simp [IntKind.wrap, IntKind.bits, IntKind.signed]
  have hB : Blk (w.alloc (.cells #[.slice (some ⟨g, 0, none⟩) n c, .int .i64 pr] 65)) w.heap.size 65 [.slice (some ⟨g, 0, none⟩) n c, .int .i64 pr] := Blk.new w _ _
  have hgr : w.grownBy (w.alloc (.cells #[.slice (some ⟨g, 0, none⟩) n c, .int .i64 pr] 65)) (some g) := ⟨rfl, rfl, rfl, by simp, fun k hk _ => Below.heap_alloc w _ k hk⟩
  have ho := hO.alloc (.cells #[.slice (some ⟨g, 0, none⟩) n c, .int .i64 pr] 65)
  clear hO
  go_enter Try.func63, Try.ntmps63
  go_upto_region 1 with (fail)
  generalize hwg : w.heap.size = gb at *
  generalize w.alloc (.cells #[.slice (some ⟨g, 0, none⟩) n c, .int .i64 pr] 65) = wa at *
  have c0 := own_cellE ho i (by omega)
  rw [List.getElem?_map, List.getElem?_eq_getElem (by omega)] at c0
  simp only [Option.map_some] at c0
  have f0 := ho.frozenAt i
  have s1 := ho.stored i (bv a)
  have c1 := own_cellE ho (i + 1) (by omega)
  rw [List.getElem?_map, List.getElem?_eq_getElem (by omega)] at c1
  simp only [Option.map_some] at c1
  have f1 := ho.frozenAt (i + 1)
  have s2 := s1.1.stored (i + 1) (bv d)
  rw [← List.map_set, ← List.map_set] at s2
  have S := Lib.hid (show _ ∧ w.grownBy _ (some g) from ⟨s2.1, (hgr.trans s1.2).trans s2.2⟩)
  clear s1 s2 ho hgr
  generalize bv (l[i]'(by have := HN.out; omega)) = z0 at *
  generalize bv (l[i + 1]'(by have := HN.out; omega)) = z1 at *
  have b0 := hB.cell 0
  simp only [List.getElem?_cons_zero] at b0
  have i1 : (i : Int) < (n : Int) := by omega
  have i2 : (i : Int) + 1 < (n : Int) := by omega
  have i0 : (0 : Int) ≤ (i : Int) := by omega
  have i3 : (0 : Int) ≤ (i : Int) + 1 := by omega
  have i4 : ((i : Int) + 1).toNat = i + 1 := by omega
  have i5 : IntKind.i64.wrap ((i : Int) + 1) = (i : Int) + 1 := IntWalk.i64_in _ (by omega)
  have hne : gb ≠ g := by omega
  have y0 : wa.drew.cell? ⟨gb, 0, none⟩ = some (.slice (some ⟨g, 0, none⟩) n c) := b0
  go_region_held3 (fun w' => w'.cell? ⟨gb, 0, none⟩ = some (.slice (some ⟨g, 0, none⟩) n c))
    (first | with_reducible exact y0 | with_reducible exact far1d b0 hne | with_reducible exact far2d b0 hne)
    (fail)
  all_goals
    go_wp2_with fail
    refine bodyPost_end (results_none rfl _ _ _) rfl ?_
    obtain ⟨t1, t2, t3, t4, t5⟩ := S.out.2
    refine ⟨⟨_, rfl⟩, ?_, ⟨t1, t2, t3, t4, t5⟩⟩
    unfold sw
    rw [← HX.out, ← HY.out]
    exact S.out.1
end Go.Proofs.Ytbhdjalpkecbeaa
