/- The fixed fact of layer 8. -/
import Derived.Test.YtikichifdkgobaaFabTake
namespace Go.Proofs.Ytikichifdkgobaa
set_option linter.unusedVariables false
set_option linter.unusedSimpArgs false
open Go.RowKit

theorem send_i (base gf : Nat) (last m : Int) (fl : Value) (l : List (Lh × Value)) (xs : List (List UInt8)) (a b : Int) (ctl : Bool) (bs_ : List UInt8) (A : Option Addr) (n c : Nat) (w : World) (hm : last + 1 = m) (ha : IsN a) (hb : IsN b) (hF : Fb w base gf last fl l xs) (hbs : base ≤ w.heap.size) (hl : l.length < 4096) (hla : 0 ≤ last ∧ last ≤ 1000000) (hn : bs_.length = n) (hR : RB w A bs_) (hc : n ≤ c) (hnl : n ≤ 4000000) : Calls Try.prog 12 #[.pointer (some ⟨gf, 0, none⟩), .int .i64 a, .int .i64 b, .bool ctl, .slice A n c] w fun e w' => e = .returned (.tuple #[.int .i64 m, .nilIface]) ∧ ∃ A2 c2 fl2, n ≤ c2 ∧ Fb w' base gf m fl2 (l ++ [(⟨m, a, b, ctl⟩, .slice A2 n c2)]) (xs ++ [bs_]) ∧ Chg w w' (fun b => b = gf ∨ fl.ownBlock = some b) ∧ base ≤ w'.heap.size := by
  subst hm
  refine (send_any base gf last fl l xs a b ctl bs_ A n c w ha hb hF hbs hl hla hn hR hc hnl).mono ?_
  rintro e w' ⟨rfl, gb, A2, c2, hc2, fl2, hF2, -, hch, -, -⟩
  exact ⟨rfl, A2, c2, fl2, hc2, hF2, hch, Nat.le_trans hbs hch.2.2.2.1⟩
theorem Fb.chg_below {w0 w w' : World} {B base gf : Nat} {last : Int} {fl : Value} {l : List (Lh × Value)} {xs : List (List UInt8)} (h : Fb w base gf last fl l xs) (hb : Below B w0 w) (hB : B ≤ w.heap.size) (hbb : B ≤ base) (hg : B ≤ gf) (hc : Chg w w' (fun b => b = gf ∨ fl.ownBlock = some b)) : Below B w0 w' :=
  hb.trans (hc.below hB (fun k hk => by
    rcases hk with rfl | hk
    · exact hg
    · exact Nat.le_trans hbb (own_lt h.own hk).1))
set_option maxHeartbeats 1600000 in
theorem alive_any (w : World) : Calls Try.prog 9 #[] w fun e w' => e = .returned (.bool true) ∧ Below w.heap.size w w' := by
  have kc := fun (W : World) (g : Nat) (C : Array Value) (n c : Nat) (hg : g = W.heap.size) => run_const (P := Try.prog) 29 5 Try.underlying29 Try.underlying5 W g C n c hg
  go_enter Try.func9, Try.ntmps9
  go_wp2_with fail
  (with_reducible refine (fnew_any w).mono ?_)
  rintro e w1 ⟨rfl, hF1, hb1⟩
  have hs1 := hF1.blk.lt
  go_wp2_with fail
  have hal : Below w1.heap.size w1 (w1.alloc (.cells #[.int .u8 120] 5 (1, 2))) := (Below.refl _ w1).alloc (Nat.le_refl _) _
  have hF2 := hF1.below hal
  have hb2 : Below w.heap.size w (w1.alloc (.cells #[.int .u8 120] 5 (1, 2))) := below_al hb1 _
  have hR2 : RB (w1.alloc (.cells #[.int .u8 120] 5 (1, 2))) (some ⟨w1.heap.size, 0, none⟩) [120] := rb_mark w1 5 (1, 2) [120] rfl
  generalize (w1.alloc (.cells #[.int .u8 120] 5 (1, 2))) = w2 at *
  (with_reducible refine (send_i w.heap.size w.heap.size 0 1 _ [] [] 0 32 false [120] _ 1 1 w2 rfl (by unfold IsN; omega) (by unfold IsN; omega) hF2 hb2.size (by simp) (by omega) rfl hR2 (by omega) (by omega)).mono ?_)
  rintro e w3 ⟨rfl, A3, c3, fl3, hc3, hF3, hch3, hbs3⟩
  have hb3 := hF2.chg_below hb2 hb2.size (Nat.le_refl _) (Nat.le_refl _) hch3
  clear hF1 hF2 hch3 hR2 hal hb2 hb1
  go_wp2_with fail
  have hal : Below w3.heap.size w3 (w3.alloc (.cells #[.int .u8 121] 5 (1, 2))) := (Below.refl _ w3).alloc (Nat.le_refl _) _
  have hF4 := hF3.below hal
  have hb4 : Below w.heap.size w (w3.alloc (.cells #[.int .u8 121] 5 (1, 2))) := below_al hb3 _
  have hR4 : RB (w3.alloc (.cells #[.int .u8 121] 5 (1, 2))) (some ⟨w3.heap.size, 0, none⟩) [121] := rb_mark w3 5 (1, 2) [121] rfl
  generalize (w3.alloc (.cells #[.int .u8 121] 5 (1, 2))) = w4 at *
  (with_reducible refine (send_i w.heap.size w.heap.size 1 2 _ _ _ 32 48 true [121] _ 1 1 w4 rfl (by unfold IsN; omega) (by unfold IsN; omega) hF4 hb4.size (by simp) (by omega) rfl hR4 (by omega) (by omega)).mono ?_)
  rintro e w5 ⟨rfl, A5, c5, fl5, hc5, hF5, hch5, hbs5⟩
  have hb5 := hF4.chg_below hb4 hb4.size (Nat.le_refl _) (Nat.le_refl _) hch5
  clear hF3 hF4 hch5 hR4 hal hb4 hb3 kc
  go_wp2_with fail
  (with_reducible refine (take_some w.heap.size w.heap.size 2 fl5 _ _ 3 1 ⟨2, 32, 48, true⟩ A5 1 c5 [121] w5 hF5 hb5.size (by simp) (by simp) (by simp [pl]) (by simp) (by simp) (by simp)).mono ?_)
  rintro e w6 ⟨A6, c6, rfl, hc6, fl6, hF6, ho6, hch6, -⟩
  have hb6 := hF5.chg_below hb5 hb5.size (Nat.le_refl _) (Nat.le_refl _) hch6
  obtain ⟨A6', c6', e0, -, hR6, -⟩ := own_form ho6
  have hR6 : RB w6 A6' [121] := hR6
  injection e0 with e1 e2 e3
  subst e1 e3
  have hal6 : Below w6.heap.size w6 (w6.alloc (.cells #[.int .i64 2, .int .i64 32, .int .i64 48, .bool true, .slice A6 1 c6] 37)) := (Below.refl _ w6).alloc (Nat.le_refl _) _
  have hF7 := hF6.below hal6
  have hR7 : RB (w6.alloc (.cells #[.int .i64 2, .int .i64 32, .int .i64 48, .bool true, .slice A6 1 c6] 37)) A6 [121] := hR6.below hal6
  have s1 := run_str (P := Try.prog) _ _ _ _ Try.underlying29 Try.underlying5 Try.underlying9 _ 1 c6 _ hR7 rfl
  have hcm : ((bs [121]).toList == [121]) = true := by rw [bs_toList]; rfl
  generalize bs [121] = q at *
  clear ho6 hch6 hF5 hR6
  go_wp2_with fail
  (with_reducible refine (flen_i w.heap.size w.heap.size 2 fl6 _ _ 1 _ hF7 (by simp)).mono ?_)
  rintro e w8 ⟨rfl, rfl⟩
  go_wp2_with fail
  go_ret
  exact ⟨rfl, hb6.trans (hal6.mono hb6.size)⟩
end Go.Proofs.Ytikichifdkgobaa
