/- The walk of packet.open. -/
import Derived.Test.YtbhdjalpkecbeaaTwo
import Derived.Test.YtbhdjalpkecbeaaPCheck
import Derived.Test.YtbhdjalpkecbeaaBClone
import Derived.Deep.RegionHeld3
import Derived.Deep.CutBlock
import Derived.Deep.DeepCutAuto
import Derived.Outline
namespace Go.Proofs.Ytbhdjalpkecbeaa
set_option linter.unusedVariables false
set_option linter.unusedSimpArgs false
open Go.RowKit

abbrev pk0 : Pk := ⟨0, 0, 0, ⟨0, 0, 0, 0, 0⟩, 0, 0, 0, 0, []⟩
theorem keep1 {w w' : World} {a : Addr} {u : Value} (hb : Below w.heap.size w w') (h : w.cell? a = some u) : w'.cell? a = some u := cell_keep hb h
theorem keep2 {w w' : World} {a a2 : Addr} {u u2 : Value} (hb : Below w.heap.size w w') (h : w.cell? a = some u) (h2 : w.cell? a2 = some u2) : w'.cell? a = some u ∧ w'.cell? a2 = some u2 := ⟨cell_keep hb h, cell_keep hb h2⟩

theorem store_new {P : Program} (w : World) (cs : Array Value) (hl : cs.toList.length = 13) (h1 : ∀ v ∈ cs.toList, v.oneCell' = true) :
    (storeCells ⟨w.heap.size, 0, none⟩ cs.toList).run P (w.alloc (.cells #[.int .i64 0, .int .i64 0, .int .i64 0, .int .i64 0, .int .u32 0, .int .i64 0, .int .u32 0, .int .i64 0, .int .u32 0, .int .u32 0, .int .i64 0, .int .i64 0, .slice none 0 0] 52)) = .ok () ((w.alloc (.cells #[.int .i64 0, .int .i64 0, .int .i64 0, .int .i64 0, .int .u32 0, .int .i64 0, .int .u32 0, .int .i64 0, .int .u32 0, .int .u32 0, .int .i64 0, .int .i64 0, .slice none 0 0] 52)).setRow w.heap.size cs) := by
  have h := store_all (P := P) (cs := cs.toList) (Blk.new w 52 (pkc pk0 none 0)) hl.symm h1
  simpa [pkc, pk0] using h
theorem store_at {P : Program} {w : World} {g : Nat} {q : Pk} {B : Option Addr} {d : Nat} (cs : Array Value) (h : Blk w g 52 (pkc q B d)) (hl : cs.toList.length = 13) (h1 : ∀ v ∈ cs.toList, v.oneCell' = true) :
    (storeCells ⟨g, 0, none⟩ cs.toList).run P w = .ok () (w.setRow g cs) := by
  have h := store_all (P := P) (cs := cs.toList) h hl.symm h1
  simpa using h

/-- The packet under way behind the first statement. -/
def OpR1 (wa : World) (b : List UInt8) (v : Value) (wx : World) : Prop := ∃ g4, v = .pointer (some ⟨g4, 0, none⟩) ∧ wa.heap.size ≤ g4 ∧ Blk wx g4 52 (pkc ⟨b1 b 1, b2 b 4, b1 b 8, ⟨0, 0, 0, 0, 0⟩, 0, 0, 0, 0, []⟩ none 0) ∧ Below wa.heap.size wa wx

theorem store_fl {P : Program} {w : World} {g : Nat} {q : Pk} {B : Option Addr} {d : Nat} (fs : Array Value) (h : Blk w g 52 (pkc q B d)) (hl : fs.toList.length = 5) (h1 : ∀ v ∈ fs.toList, v.oneCell' = true) :
    ∃ w7, (storeCells ⟨g, 3, none⟩ fs.toList).run P w = .ok () w7 ∧ Blk w7 g 52 ((pkc q B d).take 3 ++ fs.toList ++ (pkc q B d).drop 8) ∧ ∀ {a : World}, Below a.heap.size a w → a.heap.size ≤ g → Below a.heap.size a w7 := by
  have h2 := run_storeCells_at (P := P) g 3 52 fs.toList 0 (pkc q B d).toArray w h (by simp [hl]) h1
  refine ⟨_, h2, ?_, fun ha hg => below_row ha hg⟩
  have h3 := Blk.row h ((pkc q B d).take 3 ++ fs.toList ++ (pkc q B d).drop 8)
  simpa [hl] using h3
theorem rb_row_far {w : World} {g : Nat} {A : Option Addr} {c : Array Value} {xs : List UInt8} (h : RB w A xs) (hne : ∀ ad, A = some ad → ad.block ≠ g) : RB (w.setRow g c) A xs := by
  intro j u hu
  obtain ⟨ad, rfl, hc⟩ := h j u hu
  refine ⟨ad, rfl, ?_⟩
  have e : (ad.add j).block = ad.block := by unfold Addr.add; split <;> rfl
  rw [← hc]
  unfold World.cell?
  rw [e, setRow_other w g ad.block c (hne ad rfl)]
theorem bclone_n (xs : List UInt8) (A : Option Addr) (n c : Nat) (w : World) (hA : RB w A xs) (hn : xs.length = n) (hc : n ≤ c) (hl : n ≤ 4000000) :
    Calls Try.prog 55 #[.slice A n c] w fun e w' => ∃ B d, n ≤ d ∧ e = .returned (.slice B n d) ∧ Hid (w'.ownsRow w.heap.size 5 1 (.slice B n d) n (xs.map bv)) ∧ Below w.heap.size w w' := by
  subst hn
  refine (bclone_any xs A c w hA hc hl).mono ?_
  rintro e w' ⟨v, rfl, hO, hb⟩
  obtain ⟨B, d, rfl, hd, hR, -⟩ := own_form hO
  exact ⟨B, d, hd, rfl, hO, hb⟩
/-- The data of a packet are its own, at B. -/
def PkO (base : Nat) (w : World) (B : Option Addr) (d : Nat) (p : Pk) : Prop := w.ownsRow base 5 1 (.slice B p.data.length d) p.data.length (p.data.map bv)
theorem PkO.pkd {base : Nat} {w : World} {B : Option Addr} {d : Nat} {p : Pk} (h : PkO base w B d p) : PkD w B d p := by
  obtain ⟨A, c, e, hc, hR, -⟩ := own_form h
  injection e with e1 e2 e3
  subst e1 e3
  exact ⟨hc, hR⟩
theorem grown_row (w : World) (g : Nat) (c : Array Value) : w.grownBy (w.setRow g c) (some g) :=
  ⟨rfl, rfl, rfl, by simp [World.setRow], fun k hk hne => setRow_other w g k c (fun e => hne (by rw [e]))⟩
theorem own_row {w : World} {base g e size n : Nat} {v : Value} {xs : List Value} {c : Array Value} (hg : g < base) (h : w.ownsRow base e size v n xs) : (w.setRow g c).ownsRow base e size v n xs := h.kept (grown_row w g c) (own_ne hg h)
theorem rb_set_far {w : World} {g i : Nat} {A : Option Addr} {v : Value} {xs : List UInt8} (h : RB w A xs) (hne : ∀ ad, A = some ad → ad.block ≠ g) : RB (w.setCell ⟨g, i, none⟩ v) A xs := by
  intro j u hu
  obtain ⟨ad, rfl, hc⟩ := h j u hu
  refine ⟨ad, rfl, ?_⟩
  have e : (ad.add j).block = ad.block := by unfold Addr.add; split <;> rfl
  rw [← hc]
  unfold World.cell?
  rw [e, Below.heap_setCell _ _ _ _ (hne ad rfl)]
/-- The packet under way behind the second statement. -/
def OpR2 (wx : World) (g : Nat) (b : List UInt8) (wy : World) : Prop := Blk wy g 52 (pkc ⟨b1 b 1, b2 b 4, b1 b 8, ⟨17, b4 b 12, 0, b4 b 16, 0⟩, 0, 0, 0, 0, []⟩ none 0) ∧ Below wx.heap.size wx wy

set_option maxRecDepth 100000 in
set_option maxHeartbeats 3200000 in
theorem open_udp (b : List UInt8) (ad : Addr) (c : Nat) (w : World) (hA : RB w (some ad) b) (hc : b.length ≤ c) (h1 : 28 ≤ b.length) (h2 : b.length ≤ 1500) (h9 : b1 b 9 = 17) :
    Calls Try.prog 42 #[.slice (some ad) b.length c] w fun e w' => ∃ B d, e = .returned (.tuple #[pkv (opn b) B d, .bool true]) ∧ PkO w.heap.size w' B d (opn b) ∧ Below w.heap.size w w' := by
  have hb0 : Below w.heap.size w (w.alloc (.cells #[.int .i64 0, .int .i64 0, .int .i64 0, .int .i64 0, .int .u32 0, .int .i64 0, .int .u32 0, .int .i64 0, .int .u32 0, .int .u32 0, .int .i64 0, .int .i64 0, .slice none 0 0] 52)) := (Below.refl _ w).alloc (Nat.le_refl _) _
  have hG : Blk (w.alloc (.cells #[.int .i64 0, .int .i64 0, .int .i64 0, .int .i64 0, .int .u32 0, .int .i64 0, .int .u32 0, .int .i64 0, .int .u32 0, .int .u32 0, .int .i64 0, .int .i64 0, .slice none 0 0] 52)) w.heap.size 52 (pkc pk0 none 0) := Blk.new w _ _
  have hA1 := hA.below hb0
  have hn1 : ((b.length : Int) < 20) = False := by simp; omega
  go_enter Try.func42, Try.ntmps42
  go_upto_region 3 with (fail)
  generalize w.alloc (.cells #[.int .i64 0, .int .i64 0, .int .i64 0, .int .i64 0, .int .u32 0, .int .i64 0, .int .u32 0, .int .i64 0, .int .u32 0, .int .u32 0, .int .i64 0, .int .i64 0, .slice none 0 0] 52) = wa at *
  obtain ⟨n, hn⟩ : ∃ n, n = b.length := ⟨_, rfl⟩
  rw [← hn] at hc h1 h2 ⊢
  have HN := Lib.hid hn.symm
  have x1 := rb_b1 hA1 1 (by omega) (by omega)
  have x8 := rb_b1 hA1 8 (by omega) (by omega)
  have x9 := rb_b1 hA1 9 (by omega) (by omega)
  rw [h9] at x9
  clear hn hn1
  have k1 : (1 : Int) < (n : Int) := by omega
  have k8 : (8 : Int) < (n : Int) := by omega
  have k9 : (9 : Int) < (n : Int) := by omega
  go_cut [4] (fun v wx => OpR1 wa b v wx)
  case first =>
    have hcur : Below wa.heap.size wa wa.drew := Below.drew (Below.refl _ wa)
    have hca : Below wa.heap.size wa (wa.alloc (.cells #[.int .i64 0, .int .i64 0, .int .i64 0, .int .i64 0, .int .u32 0, .int .i64 0, .int .u32 0, .int .i64 0, .int .u32 0, .int .u32 0, .int .i64 0, .int .i64 0, .slice none 0 0] 52)).drew := Below.drew ((Below.refl _ wa).alloc (Nat.le_refl _) _)
    have hBa : Blk (wa.alloc (.cells #[.int .i64 0, .int .i64 0, .int .i64 0, .int .i64 0, .int .u32 0, .int .i64 0, .int .u32 0, .int .i64 0, .int .u32 0, .int .u32 0, .int .i64 0, .int .i64 0, .slice none 0 0] 52)).drew wa.heap.size 52 (pkc pk0 none 0) := Blk.new wa _ _
    have i1 := b1_lt b 1
    have i8 := b1_lt b 8
    have q1 : IntKind.i64.wrap (b1 b 1 : Int) = (b1 b 1 : Int) := IntWalk.i64_in _ (by omega)
    have q8 : IntKind.i64.wrap (b1 b 8 : Int) = (b1 b 8 : Int) := IntWalk.i64_in _ (by omega)
    obtain ⟨cs, hcs⟩ : ∃ cs : Array Value, #[.int .i64 (b1 b 1 : Int), .int .i64 (b2 b 4 : Int), .int .i64 (b1 b 8 : Int), .int .i64 0, .int .u32 0, .int .i64 0, .int .u32 0, .int .i64 0, .int .u32 0, .int .u32 0, .int .i64 0, .int .i64 0, .slice none 0 0] = cs := ⟨_, rfl⟩
    have hsz : cs.size = 13 := by rw [← hcs]; rfl
    have hsl : cs.toList.length = 13 := by rw [← hcs]; rfl
    have hone : ∀ v ∈ cs.toList, v.oneCell' = true := by
      rw [← hcs]
      intro v hv
      simp at hv
      rcases hv with rfl | rfl | rfl | rfl | rfl | rfl | rfl | rfl | rfl | rfl | rfl | rfl | rfl <;> rfl
    have Hone := Lib.hid hone
    clear hone
    go_region_held3 (fun w' => w'.cell? ⟨ad.block, ad.off + 1, none⟩ = some (.int .u8 (b1 b 1 : Int)) ∧ w'.cell? ⟨ad.block, ad.off + 8, none⟩ = some (.int .u8 (b1 b 8 : Int)))
      (first | with_reducible exact ⟨x1, x8⟩ | with_reducible exact keep2 hcur x1 x8 | with_reducible exact keep2 hca x1 x8 | with_reducible exact keep2 (below_al hcur _) x1 x8 | with_reducible exact keep2 (below_row hca (Nat.le_refl _)) x1 x8 | with_reducible exact keep2 (below_row (below_al hcur _) hcur.size) x1 x8)
      (first
        | (go_at_call 52; (with_reducible refine (btwo_b b (some ad) n c 4 4 _ (hA1.below hcur) HN.out (by omega) (by omega) rfl).mono ?_); rintro e w6 ⟨rfl, hb6⟩; replace hcur := below_call hcur hb6; have hst := store_new (P := Try.prog) w6 cs hsl Hone.out)
        | (go_at_call 52; (with_reducible refine (btwo_b b (some ad) n c 4 4 _ (hA1.below hca) HN.out (by omega) (by omega) rfl).mono ?_); rintro e w6 ⟨rfl, hb6⟩; replace hca := below_call hca hb6; have hBb := hBa.kept hb6; have hst := store_at (P := Try.prog) cs hBb hsl Hone.out))
    focus
      go_wp2_with fail
      go_meet
      rw [← hcs]
      exact ⟨_, rfl, hcur.size, Blk.row (Blk.new w6 _ (pkc pk0 none 0)) _, below_row (below_al hcur _) hcur.size⟩
    focus
      go_wp2_with fail
      go_meet
      rw [← hcs]
      exact ⟨_, rfl, Nat.le_refl _, Blk.row hBb _, below_row hca (Nat.le_refl _)⟩
  case rest =>
    obtain ⟨g4, rfl, hg4, hB, hbx⟩ := id hcut
    clear hcut
    obtain ⟨wx, hwx⟩ : ∃ x, x = wc := ⟨_, rfl⟩
    subst hwx
    clear x1 x8
    have q17 : IntKind.i64.wrap 17 = 17 := by decide
    have hgw := hG.lt
    go_upto_region 4 with (fail)
    go_cut [] (fun wy => OpR2 wa g4 b wy)
    case first =>
      have hcur : Below wa.heap.size wa wx.drew := Below.drew hbx
      have hBd : Blk wx.drew g4 52 (pkc ⟨b1 b 1, b2 b 4, b1 b 8, ⟨0, 0, 0, 0, 0⟩, 0, 0, 0, 0, []⟩ none 0) := hB
      obtain ⟨fs, hfs⟩ : ∃ fs : Array Value, #[.int .i64 17, .int .u32 (b4 b 12 : Int), .int .i64 0, .int .u32 (b4 b 16 : Int), .int .i64 0] = fs := ⟨_, rfl⟩
      have hsz : fs.size = 5 := by rw [← hfs]; rfl
      have hsl : fs.toList.length = 5 := by rw [← hfs]; rfl
      have hone : ∀ v ∈ fs.toList, v.oneCell' = true := by
        rw [← hfs]
        intro v hv
        simp at hv
        rcases hv with rfl | rfl | rfl | rfl | rfl <;> rfl
      have Hone := Lib.hid hone
      clear hone
      go_region_held3 (fun w' => w'.cell? ⟨ad.block, ad.off + 9, none⟩ = some (.int .u8 ((17 : Nat) : Int)))
        (first | with_reducible exact keep1 hcur x9 | with_reducible exact keep1 (hb7 hcur hg4) x9)
        (first
          | (go_at_call 53; (with_reducible refine (bfour_b b (some ad) n c 12 12 _ (hA1.below hcur) HN.out (by omega) (by omega) rfl).mono ?_); rintro e w6 ⟨rfl, hb6⟩; replace hcur := below_call hcur hb6; replace hBd := hBd.kept hb6; obtain ⟨w7, hst, hB7, hb7⟩ := store_fl (P := Try.prog) fs hBd hsl Hone.out)
          | (go_at_call 53; (with_reducible refine (bfour_b b (some ad) n c 16 16 _ (hA1.below hcur) HN.out (by omega) (by omega) rfl).mono ?_); rintro e w6 ⟨rfl, hb6⟩; replace hcur := below_call hcur hb6; replace hBd := hBd.kept hb6; obtain ⟨w7, hst, hB7, hb7⟩ := store_fl (P := Try.prog) fs hBd hsl Hone.out))
      all_goals
        go_wp2_with fail
        go_meet
        rw [← hfs] at hB7
        exact ⟨hB7, hb7 hcur hg4⟩
    case rest =>
      obtain ⟨hB2, hb2⟩ := id hcut
      clear hcut hB hbx x9 k1 k8 k9
      obtain ⟨c0, c1, c2, c3, c4, c5, c6, c7, c8, c9, c10, c11, c12⟩ := blk13 hB2
      obtain ⟨wz, hwz⟩ : ∃ x, x = wc := ⟨_, rfl⟩
      subst hwz
      have hRd := (hA1.below hb2).drop_ HN.out 20 (by omega) hc
      have n20 : (20 : Int) ≤ (n : Int) := by omega
      have n20c : (20 : Int) ≤ (c : Int) := by omega
      have nc : (n : Int) ≤ (c : Int) := by omega
      rw [if_neg (by omega), Option.map_some, add_pos' _ 20 (by omega)] at hRd
      have l20 : (b.drop 20).length = n - 20 := by rw [List.length_drop, HN.out]
      have n28 : ¬ (((n - 20 : Nat) : Int) < 8) := by omega
      have e20 : (n : Int).toNat - 20 = n - 20 := by omega
      go_wp2_with fail
      (with_reducible refine (headOf_udp wz).mono ?_)
      rintro e w1 ⟨rfl, rfl⟩
      go_wp2_with fail
      (with_reducible refine (btwo_b (b.drop 20) _ (n - 20) (c - 20) 0 0 w1 hRd l20 (by omega) (by omega) rfl).mono ?_)
      rintro e w2 ⟨rfl, hb12⟩
      rw [b2_drop]
      go_wp2_with fail
      (with_reducible refine (btwo_b (b.drop 20) _ (n - 20) (c - 20) 2 2 w2 (hRd.below hb12) l20 (by omega) (by omega) rfl).mono ?_)
      rintro e w3 ⟨rfl, hb23⟩
      rw [b2_drop]
      have hB3 := (hB2.kept hb12).kept hb23
      have hb3 := below_call (below_call hb2 hb12) hb23
      clear hB2 hb2 hb12 hb23 c0 c1 c2 c3 c4 c5 c6 c7 c8 c9 c10 c11 c12
      obtain ⟨c0, c1, c2, c3, c4, c5, c6, c7, c8, c9, c10, c11, c12⟩ := blk13 hB3
      have f5 := hB3.frozen 5
      have f7 := hB3.frozen 7
      go_upto_region 9 with (fail)
      have hB4 : Blk ((w3.setCell ⟨g4, 5, none⟩ (.int .i64 (b2 b 20 : Int))).setCell ⟨g4, 7, none⟩ (.int .i64 (b2 b 22 : Int))) g4 52 (pkc ⟨b1 b 1, b2 b 4, b1 b 8, ⟨17, b4 b 12, b2 b 20, b4 b 16, b2 b 22⟩, 0, 0, 0, 0, []⟩ none 0) := (hB3.set_ 5 _).set_ 7 _
      have hb4 : Below wa.heap.size wa ((w3.setCell ⟨g4, 5, none⟩ (.int .i64 (b2 b 20 : Int))).setCell ⟨g4, 7, none⟩ (.int .i64 (b2 b 22 : Int))) := (hb3.setCell hg4 _).setCell hg4 _
      generalize (w3.setCell ⟨g4, 5, none⟩ (.int .i64 (b2 b 20 : Int))).setCell ⟨g4, 7, none⟩ (.int .i64 (b2 b 22 : Int)) = w4 at *
      clear hB3 hb3 f5 f7 c0 c1 c2 c3 c4 c5 c6 c7 c8 c9 c10 c11 c12 hRd
      have l28 : (b.drop 28).length = n - 28 := by rw [List.length_drop, HN.out]
      have hRd : ∃ A, (if c - 20 = 8 then some (⟨ad.block, ad.off + 20, none⟩ : Addr) else some ⟨ad.block, ad.off + 28, none⟩) = A ∧ RB w4 A (b.drop 28) := by
        refine ⟨_, rfl, ?_⟩
        have h := (hA1.below hb4).drop_ HN.out 20 (by omega) hc
        rw [if_neg (by omega), Option.map_some, add_pos' _ 20 (by omega)] at h
        have h2 := h.drop_ l20 8 (by omega) (show n - 20 ≤ c - 20 by omega)
        rw [List.drop_drop, Option.map_some, add_pos' _ 8 (by omega)] at h2
        exact h2
      obtain ⟨A, hA28, hRd⟩ := hRd
      obtain ⟨c0, c1, c2, c3, c4, c5, c6, c7, c8, c9, c10, c11, c12⟩ := blk13 hB4
      have f12 := hB4.frozen 12
      go_wp2_with fail
      (with_reducible refine (headOf_udp w4).mono ?_)
      rintro e w1 ⟨rfl, rfl⟩
      go_wp2_with fail
      (with_reducible refine (bclone_n (b.drop 28) A (n - 20 - 8) (c - 20 - 8) w1 hRd (by omega) (by omega) (by omega)).mono ?_)
      rintro e w5 ⟨B, d, hBd, rfl, HO5, hb15⟩
      have hB5 := hB4.kept hb15
      have hb5 := below_call hb4 hb15
      have hg1 : g4 < w1.heap.size := hB4.lt
      have hgw1 : wa.heap.size ≤ w1.heap.size := hb4.size
      clear hB4 hb15 f12 c0 c1 c2 c3 c4 c5 c6 c7 c8 c9 c10 c11 c12
      obtain ⟨c0, c1, c2, c3, c4, c5, c6, c7, c8, c9, c10, c11, c12⟩ := blk13 hB5
      have f12 := hB5.frozen 12
      go_upto_region 12 with (fail)
      have e28 : n - 20 - 8 = (b.drop 28).length := by omega
      have hQ : opn b = ⟨b1 b 1, b2 b 4, b1 b 8, ⟨17, b4 b 12, b2 b 20, b4 b 16, b2 b 22⟩, 0, 0, 0, 0, b.drop 28⟩ := by
        unfold opn
        rw [h9]
        rfl
      have hB6 : Blk (w5.setCell ⟨g4, 12, none⟩ (.slice B (n - 20 - 8) d)) g4 52 (pkc (opn b) B d) := by
        rw [hQ, e28]
        exact hB5.set_ 12 _
      have HO6 := Lib.hid (own_set (i := 12) (u := .slice B (n - 20 - 8) d) hg1 HO5.out)
      have hb6 : Below wa.heap.size wa (w5.setCell ⟨g4, 12, none⟩ (.slice B (n - 20 - 8) d)) := hb5.setCell hg4 _
      generalize w5.setCell ⟨g4, 12, none⟩ (.slice B (n - 20 - 8) d) = w6 at *
      have hG6 := (hG.below hb6 hG.lt)
      have HQ := Lib.hid (congrArg Pk.data hQ)
      clear hQ
      clear hB5 HO5 hb5 f12 c0 c1 c2 c3 c4 c5 c6 c7 c8 c9 c10 c11 c12
      obtain ⟨c0, c1, c2, c3, c4, c5, c6, c7, c8, c9, c10, c11, c12⟩ := blk13 hB6
      obtain ⟨cs, hcs⟩ : ∃ cs : Array Value, #[.int .i64 (opn b).tos, .int .i64 (opn b).id, .int .i64 (opn b).ttl, .int .i64 (opn b).fl.proto, .int .u32 (opn b).fl.src, .int .i64 (opn b).fl.sp, .int .u32 (opn b).fl.dst, .int .i64 (opn b).fl.dp, .int .u32 (opn b).seq, .int .u32 (opn b).ack, .int .i64 (opn b).flags, .int .i64 (opn b).win, .slice B (opn b).data.length d] = cs := ⟨_, rfl⟩
      have hsz : cs.size = 13 := by rw [← hcs]; rfl
      have hsl : cs.toList.length = 13 := by rw [← hcs]; rfl
      have hone : ∀ v ∈ cs.toList, v.oneCell' = true := by
        rw [← hcs]
        intro v hv
        simp at hv
        rcases hv with rfl | rfl | rfl | rfl | rfl | rfl | rfl | rfl | rfl | rfl | rfl | rfl | rfl <;> rfl
      have hst := store_at (P := Try.prog) cs hG6 hsl hone
      have hB7 : Blk (w6.setRow w.heap.size cs) w.heap.size 52 (pkc (opn b) B d) := by
        rw [← hcs]
        exact hG6.row _
      have HO7 := Lib.hid (own_row (g := w.heap.size) (c := cs) (by omega) HO6.out)
      have hb7 : Below w.heap.size w (w6.setRow w.heap.size cs) := below_row (below_call hb0 hb6) (Nat.le_refl _)
      generalize w6.setRow w.heap.size cs = w7 at *
      clear hone
      go_wp2_with fail
      clear c0 c1 c2 c3 c4 c5 c6 c7 c8 c9 c10 c11 c12
      obtain ⟨c0, c1, c2, c3, c4, c5, c6, c7, c8, c9, c10, c11, c12⟩ := blk13 hB7
      (try simp only [Exit.inBlock, Exit.then])
      refine bodyPost_ret (by simp [results, Try.results42, go_sem, c0, c1, c2, c3, c4, c5, c6, c7, c8, c9, c10, c11, c12]; try rfl) rfl ?_
      refine ⟨B, d, rfl, ?_, hb7⟩
      have h7 := own_weaken HO7.out (show w.heap.size ≤ w1.heap.size by omega)
      unfold PkO
      rw [HQ.out, ← e28]
      exact h7
end Go.Proofs.Ytbhdjalpkecbeaa
