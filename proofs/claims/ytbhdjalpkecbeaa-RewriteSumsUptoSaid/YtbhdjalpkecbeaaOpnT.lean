/- The walk of packet.open, of a TCP packet. -/
import Derived.Test.YtbhdjalpkecbeaaOpn
namespace Go.Proofs.Ytbhdjalpkecbeaa
set_option linter.unusedVariables false
set_option linter.unusedSimpArgs false
open Go.RowKit

def OpT2 (wx : World) (g : Nat) (b : List UInt8) (wy : World) : Prop := Blk wy g 52 (pkc ⟨b1 b 1, b2 b 4, b1 b 8, ⟨6, b4 b 12, 0, b4 b 16, 0⟩, 0, 0, 0, 0, []⟩ none 0) ∧ Below wx.heap.size wx wy

def OpT3 (wx : World) (g : Nat) (b : List UInt8) (wy : World) : Prop := Blk wy g 52 (pkc ⟨b1 b 1, b2 b 4, b1 b 8, ⟨6, b4 b 12, b2 b 20, b4 b 16, b2 b 22⟩, b4 b 24, b4 b 28, b1 b 33, b2 b 34, []⟩ none 0) ∧ Below wx.heap.size wx wy
theorem rb20 {w : World} {ad : Addr} {b : List UInt8} {n c : Nat} (h : RB w (some ad) b) (hn : b.length = n) (h2 : 20 < n) (hc : n ≤ c) : RB w (some ⟨ad.block, ad.off + 20, none⟩) (b.drop 20) := by
  have h := h.drop_ hn 20 (by omega) hc
  rw [if_neg (by omega), Option.map_some, add_pos' _ 20 (by omega)] at h
  exact h

theorem far1 {w : World} {k o g i : Nat} {u v : Value} (h : w.cell? ⟨k, o, none⟩ = some u) (hne : k ≠ g) : (w.setCell ⟨g, i, none⟩ v).cell? ⟨k, o, none⟩ = some u := by
  rw [← h]
  unfold World.cell?
  rw [Below.heap_setCell _ _ _ _ hne]
set_option maxRecDepth 100000 in
set_option maxHeartbeats 3200000 in
theorem open_tcp (b : List UInt8) (ad : Addr) (c : Nat) (w : World) (hA : RB w (some ad) b) (hc : b.length ≤ c) (h1 : 40 ≤ b.length) (h2 : b.length ≤ 1500) (h9 : b1 b 9 = 6) :
    Calls Try.prog 42 #[.slice (some ad) b.length c] w fun e w' => ∃ B d, e = .returned (.tuple #[pkv (opn b) B d, .bool true]) ∧ PkO w.heap.size w' B d (opn b) ∧ Below w.heap.size w w' := by
  have hb0 : Below w.heap.size w (w.alloc (.cells #[.int .i64 0, .int .i64 0, .int .i64 0, .int .i64 0, .int .u32 0, .int .i64 0, .int .u32 0, .int .i64 0, .int .u32 0, .int .u32 0, .int .i64 0, .int .i64 0, .slice none 0 0] 52)) := (Below.refl _ w).alloc (Nat.le_refl _) _
  have hG : Blk (w.alloc (.cells #[.int .i64 0, .int .i64 0, .int .i64 0, .int .i64 0, .int .u32 0, .int .i64 0, .int .u32 0, .int .i64 0, .int .u32 0, .int .u32 0, .int .i64 0, .int .i64 0, .slice none 0 0] 52)) w.heap.size 52 (pkc pk0 none 0) := Blk.new w _ _
  have hA1 := hA.below hb0
  have hn1 : ((b.length : Int) < 20) = False := by simp; omega
  go_enter Try.func42, Try.ntmps42
  go_upto_region 3 with (fail)
  generalize w.alloc (.cells #[.int .i64 0, .int .i64 0, .int .i64 0, .int .i64 0, .int .u32 0, .int .i64 0, .int .u32 0, .int .i64 0, .int .u32 0, .int .u32 0, .int .i64 0, .int .i64 0, .slice none 0 0] 52) = wa at *
  obtain ⟨n, hn⟩ : ∃ n, n = b.length := ⟨_, rfl⟩
  rw [← hn] at hc h1 h2 ⊢
  have HN := Lib.hid hn.symm
  have x1 := rb_b1 hA1 1 (by omega) (by omega)
  have x8 := rb_b1 hA1 8 (by omega) (by omega)
  have x9 := rb_b1 hA1 9 (by omega) (by omega)
  rw [h9] at x9
  clear hn hn1
  have k1 : (1 : Int) < (n : Int) := by omega
  have k8 : (8 : Int) < (n : Int) := by omega
  have k9 : (9 : Int) < (n : Int) := by omega
  go_cut [4] (fun v wx => OpR1 wa b v wx)
  case first =>
    have hcur : Below wa.heap.size wa wa.drew := Below.drew (Below.refl _ wa)
    have hca : Below wa.heap.size wa (wa.alloc (.cells #[.int .i64 0, .int .i64 0, .int .i64 0, .int .i64 0, .int .u32 0, .int .i64 0, .int .u32 0, .int .i64 0, .int .u32 0, .int .u32 0, .int .i64 0, .int .i64 0, .slice none 0 0] 52)).drew := Below.drew ((Below.refl _ wa).alloc (Nat.le_refl _) _)
    have hBa : Blk (wa.alloc (.cells #[.int .i64 0, .int .i64 0, .int .i64 0, .int .i64 0, .int .u32 0, .int .i64 0, .int .u32 0, .int .i64 0, .int .u32 0, .int .u32 0, .int .i64 0, .int .i64 0, .slice none 0 0] 52)).drew wa.heap.size 52 (pkc pk0 none 0) := Blk.new wa _ _
    have i1 := b1_lt b 1
    have i8 := b1_lt b 8
    have q1 : IntKind.i64.wrap (b1 b 1 : Int) = (b1 b 1 : Int) := IntWalk.i64_in _ (by omega)
    have q8 : IntKind.i64.wrap (b1 b 8 : Int) = (b1 b 8 : Int) := IntWalk.i64_in _ (by omega)
    obtain ⟨cs, hcs⟩ : ∃ cs : Array Value, #[.int .i64 (b1 b 1 : Int), .int .i64 (b2 b 4 : Int), .int .i64 (b1 b 8 : Int), .int .i64 0, .int .u32 0, .int .i64 0, .int .u32 0, .int .i64 0, .int .u32 0, .int .u32 0, .int .i64 0, .int .i64 0, .slice none 0 0] = cs := ⟨_, rfl⟩
    have hsz : cs.size = 13 := by rw [← hcs]; rfl
    have hsl : cs.toList.length = 13 := by rw [← hcs]; rfl
    have hone : ∀ v ∈ cs.toList, v.oneCell' = true := by
      rw [← hcs]
      intro v hv
      simp at hv
      rcases hv with rfl | rfl | rfl | rfl | rfl | rfl | rfl | rfl | rfl | rfl | rfl | rfl | rfl <;> rfl
    have Hone := Lib.hid hone
    clear hone
    go_region_held3 (fun w' => w'.cell? ⟨ad.block, ad.off + 1, none⟩ = some (.int .u8 (b1 b 1 : Int)) ∧ w'.cell? ⟨ad.block, ad.off + 8, none⟩ = some (.int .u8 (b1 b 8 : Int)))
      (first | with_reducible exact ⟨x1, x8⟩ | with_reducible exact keep2 hcur x1 x8 | with_reducible exact keep2 hca x1 x8 | with_reducible exact keep2 (below_al hcur _) x1 x8 | with_reducible exact keep2 (below_row hca (Nat.le_refl _)) x1 x8 | with_reducible exact keep2 (below_row (below_al hcur _) hcur.size) x1 x8)
      (first
        | (go_at_call 52; (with_reducible refine (btwo_b b (some ad) n c 4 4 _ (hA1.below hcur) HN.out (by omega) (by omega) rfl).mono ?_); rintro e w6 ⟨rfl, hb6⟩; replace hcur := below_call hcur hb6; have hst := store_new (P := Try.prog) w6 cs hsl Hone.out)
        | (go_at_call 52; (with_reducible refine (btwo_b b (some ad) n c 4 4 _ (hA1.below hca) HN.out (by omega) (by omega) rfl).mono ?_); rintro e w6 ⟨rfl, hb6⟩; replace hca := below_call hca hb6; have hBb := hBa.kept hb6; have hst := store_at (P := Try.prog) cs hBb hsl Hone.out))
    focus
      go_wp2_with fail
      go_meet
      rw [← hcs]
      exact ⟨_, rfl, hcur.size, Blk.row (Blk.new w6 _ (pkc pk0 none 0)) _, below_row (below_al hcur _) hcur.size⟩
    focus
      go_wp2_with fail
      go_meet
      rw [← hcs]
      exact ⟨_, rfl, Nat.le_refl _, Blk.row hBb _, below_row hca (Nat.le_refl _)⟩
  case rest =>
    obtain ⟨g4, rfl, hg4, hB, hbx⟩ := id hcut
    clear hcut
    obtain ⟨wx, hwx⟩ : ∃ x, x = wc := ⟨_, rfl⟩
    subst hwx
    clear x1 x8
    have q17 : IntKind.i64.wrap 6 = 6 := by decide
    have hgw := hG.lt
    go_upto_region 4 with (fail)
    go_cut [] (fun wy => OpT2 wa g4 b wy)
    case first =>
      have hcur : Below wa.heap.size wa wx.drew := Below.drew hbx
      have hBd : Blk wx.drew g4 52 (pkc ⟨b1 b 1, b2 b 4, b1 b 8, ⟨0, 0, 0, 0, 0⟩, 0, 0, 0, 0, []⟩ none 0) := hB
      obtain ⟨fs, hfs⟩ : ∃ fs : Array Value, #[.int .i64 6, .int .u32 (b4 b 12 : Int), .int .i64 0, .int .u32 (b4 b 16 : Int), .int .i64 0] = fs := ⟨_, rfl⟩
      have hsz : fs.size = 5 := by rw [← hfs]; rfl
      have hsl : fs.toList.length = 5 := by rw [← hfs]; rfl
      have hone : ∀ v ∈ fs.toList, v.oneCell' = true := by
        rw [← hfs]
        intro v hv
        simp at hv
        rcases hv with rfl | rfl | rfl | rfl | rfl <;> rfl
      have Hone := Lib.hid hone
      clear hone
      go_region_held3 (fun w' => w'.cell? ⟨ad.block, ad.off + 9, none⟩ = some (.int .u8 ((6 : Nat) : Int)))
        (first | with_reducible exact keep1 hcur x9 | with_reducible exact keep1 (hb7 hcur hg4) x9)
        (first
          | (go_at_call 53; (with_reducible refine (bfour_b b (some ad) n c 12 12 _ (hA1.below hcur) HN.out (by omega) (by omega) rfl).mono ?_); rintro e w6 ⟨rfl, hb6⟩; replace hcur := below_call hcur hb6; replace hBd := hBd.kept hb6; obtain ⟨w7, hst, hB7, hb7⟩ := store_fl (P := Try.prog) fs hBd hsl Hone.out)
          | (go_at_call 53; (with_reducible refine (bfour_b b (some ad) n c 16 16 _ (hA1.below hcur) HN.out (by omega) (by omega) rfl).mono ?_); rintro e w6 ⟨rfl, hb6⟩; replace hcur := below_call hcur hb6; replace hBd := hBd.kept hb6; obtain ⟨w7, hst, hB7, hb7⟩ := store_fl (P := Try.prog) fs hBd hsl Hone.out))
      all_goals
        go_wp2_with fail
        go_meet
        rw [← hfs] at hB7
        exact ⟨hB7, hb7 hcur hg4⟩
    case rest =>
      obtain ⟨hB2, hb2⟩ := id hcut
      clear hcut hB hbx x9 k1 k8 k9
      obtain ⟨c0, c1, c2, c3, c4, c5, c6, c7, c8, c9, c10, c11, c12⟩ := blk13 hB2
      obtain ⟨wz, hwz⟩ : ∃ x, x = wc := ⟨_, rfl⟩
      subst hwz
      have hRd := (hA1.below hb2).drop_ HN.out 20 (by omega) hc
      have n20 : (20 : Int) ≤ (n : Int) := by omega
      have n20c : (20 : Int) ≤ (c : Int) := by omega
      have nc : (n : Int) ≤ (c : Int) := by omega
      rw [if_neg (by omega), Option.map_some, add_pos' _ 20 (by omega)] at hRd
      have l20 : (b.drop 20).length = n - 20 := by rw [List.length_drop, HN.out]
      have n28 : ¬ (((n - 20 : Nat) : Int) < 20) := by omega
      have e20 : (n : Int).toNat - 20 = n - 20 := by omega
      go_wp2_with fail
      (with_reducible refine (headOf_tcp wz).mono ?_)
      rintro e w1 ⟨rfl, rfl⟩
      go_wp2_with fail
      (with_reducible refine (btwo_b (b.drop 20) _ (n - 20) (c - 20) 0 0 w1 hRd l20 (by omega) (by omega) rfl).mono ?_)
      rintro e w2 ⟨rfl, hb12⟩
      rw [b2_drop]
      go_wp2_with fail
      (with_reducible refine (btwo_b (b.drop 20) _ (n - 20) (c - 20) 2 2 w2 (hRd.below hb12) l20 (by omega) (by omega) rfl).mono ?_)
      rintro e w3 ⟨rfl, hb23⟩
      rw [b2_drop]
      have hB3 := (hB2.kept hb12).kept hb23
      have hb3 := below_call (below_call hb2 hb12) hb23
      clear hB2 hb2 hb12 hb23 c0 c1 c2 c3 c4 c5 c6 c7 c8 c9 c10 c11 c12
      obtain ⟨c0, c1, c2, c3, c4, c5, c6, c7, c8, c9, c10, c11, c12⟩ := blk13 hB3
      have f5 := hB3.frozen 5
      have f7 := hB3.frozen 7
      go_upto_region 9 with (fail)
      have hB4 : Blk ((w3.setCell ⟨g4, 5, none⟩ (.int .i64 (b2 b 20 : Int))).setCell ⟨g4, 7, none⟩ (.int .i64 (b2 b 22 : Int))) g4 52 (pkc ⟨b1 b 1, b2 b 4, b1 b 8, ⟨6, b4 b 12, b2 b 20, b4 b 16, b2 b 22⟩, 0, 0, 0, 0, []⟩ none 0) := (hB3.set_ 5 _).set_ 7 _
      have hb4 : Below wa.heap.size wa ((w3.setCell ⟨g4, 5, none⟩ (.int .i64 (b2 b 20 : Int))).setCell ⟨g4, 7, none⟩ (.int .i64 (b2 b 22 : Int))) := (hb3.setCell hg4 _).setCell hg4 _
      generalize (w3.setCell ⟨g4, 5, none⟩ (.int .i64 (b2 b 20 : Int))).setCell ⟨g4, 7, none⟩ (.int .i64 (b2 b 22 : Int)) = w4 at *
      clear hB3 hb3 f5 f7 c0 c1 c2 c3 c4 c5 c6 c7 c8 c9 c10 c11 c12 hRd
      have c13 := hB4
      obtain ⟨c0, c1, c2, c3, c4, c5, c6, c7, c8, c9, c10, c11, c12⟩ := blk13 hB4
      have x13 := rb_b1 hA1 33 (by rw [HN.out]; omega) (by omega)
      have i13 := b1_lt b 33
      have q13 : IntKind.i64.wrap (b1 b 33 : Int) = (b1 b 33 : Int) := IntWalk.i64_in _ (by omega)
      have n13 : (13 : Int) < ((n - 20 : Nat) : Int) := by omega
      go_upto_region 10 with (fail)
      go_cut [] (fun wy => OpT3 wa g4 b wy)
      case first =>
        have hcur : Below wa.heap.size wa w4.drew := Below.drew hb4
        have hBd : Blk w4.drew g4 52 (pkc ⟨b1 b 1, b2 b 4, b1 b 8, ⟨6, b4 b 12, b2 b 20, b4 b 16, b2 b 22⟩, 0, 0, 0, 0, []⟩ none 0) := hB4
        have hr := rb20 hA1 HN.out (by omega) hc
        clear c0 c1 c2 c3 c4 c5 c6 c7 c8 c9 c10 c11 c12 c13
        have y0 := keep1 hcur x13
        have hgn : ad.block ≠ g4 := by have h := World.block_lt_of_cell? _ _ x13; have h2 : ad.block < wa.heap.size := h; omega
        clear hB4 hb4 hG hb0 hA HN
        go_region_held3 (fun w' => w'.cell? ⟨ad.block, ad.off + 33, none⟩ = some (.int .u8 (b1 b 33 : Int)))
          (first | with_reducible exact x13 | with_reducible exact y0 | with_reducible exact far1 (far1 (far1 (far1 y0 hgn) hgn) hgn) hgn | with_reducible exact far1 (far1 (far1 y0 hgn) hgn) hgn | with_reducible exact far1 (far1 y0 hgn) hgn | with_reducible exact far1 y0 hgn)
          (first
            | (go_at_call 53; (with_reducible refine (bfour_b (b.drop 20) _ (n - 20) (c - 20) 4 4 _ (hr.below hcur) l20 (by omega) (by omega) rfl).mono ?_); rintro e w6 ⟨rfl, hb6⟩; rw [b4_drop]; replace hcur := below_call hcur hb6; replace hBd := hBd.kept hb6; replace y0 := keep1 hcur x13; clear hb6)
            | (go_at_call 53; (with_reducible refine (bfour_b (b.drop 20) _ (n - 20) (c - 20) 8 8 _ (hr.below hcur) l20 (by omega) (by omega) rfl).mono ?_); rintro e w6 ⟨rfl, hb6⟩; rw [b4_drop]; replace hcur := below_call hcur hb6; replace hBd := hBd.kept hb6; replace y0 := keep1 hcur x13; clear hb6)
            | (go_at_call 52; (with_reducible refine (btwo_b (b.drop 20) _ (n - 20) (c - 20) 14 14 _ (hr.below hcur) l20 (by omega) (by omega) rfl).mono ?_); rintro e w6 ⟨rfl, hb6⟩; rw [b2_drop]; replace hcur := below_call hcur hb6; replace hBd := hBd.kept hb6; replace y0 := keep1 hcur x13; clear hb6; obtain ⟨-, -, -, -, -, -, -, -, c8, c9, c10, c11, -⟩ := blk13 hBd; have f8 := hBd.frozen 8; have f9 := hBd.frozen 9; have f10 := hBd.frozen 10; have f11 := hBd.frozen 11))
        all_goals
          go_wp2_with fail
          go_meet
          exact ⟨(((hBd.set_ 8 _).set_ 9 _).set_ 10 _).set_ 11 _, (((hcur.setCell hg4 _).setCell hg4 _).setCell hg4 _).setCell hg4 _⟩
      case rest =>
        obtain ⟨hB5, hb5⟩ := id hcut
        clear hcut hB4 hb4 x13 i13 q13 n13 c0 c1 c2 c3 c4 c5 c6 c7 c8 c9 c10 c11 c12 c13
        obtain ⟨w5, hw5⟩ : ∃ x, x = wc := ⟨_, rfl⟩
        subst hw5
        have l40 : (b.drop 40).length = n - 40 := by rw [List.length_drop, HN.out]
        have hRd : ∃ A, (if c - 20 = 20 then some (⟨ad.block, ad.off + 20, none⟩ : Addr) else some ⟨ad.block, ad.off + 40, none⟩) = A ∧ RB w5 A (b.drop 40) := by
          refine ⟨_, rfl, ?_⟩
          have h := (hA1.below hb5).drop_ HN.out 20 (by omega) hc
          rw [if_neg (by omega), Option.map_some, add_pos' _ 20 (by omega)] at h
          have h2 := h.drop_ l20 20 (by omega) (show n - 20 ≤ c - 20 by omega)
          rw [List.drop_drop, Option.map_some, add_pos' _ 20 (by omega)] at h2
          exact h2
        obtain ⟨A, hA28, hRd⟩ := hRd
        obtain ⟨c0, c1, c2, c3, c4, c5, c6, c7, c8, c9, c10, c11, c12⟩ := blk13 hB5
        have f12 := hB5.frozen 12
        go_wp2_with fail
        (with_reducible refine (headOf_tcp w5).mono ?_)
        rintro e w1 ⟨rfl, rfl⟩
        go_wp2_with fail
        (with_reducible refine (bclone_n (b.drop 40) A (n - 20 - 20) (c - 20 - 20) w1 hRd (by omega) (by omega) (by omega)).mono ?_)
        rintro e w8 ⟨B, d, hBd, rfl, HO5, hb15⟩
        have hB8 := hB5.kept hb15
        have hb8 := below_call hb5 hb15
        have hg1 : g4 < w1.heap.size := hB5.lt
        have hgw1 : wa.heap.size ≤ w1.heap.size := hb5.size
        clear hB5 hb15 f12 c0 c1 c2 c3 c4 c5 c6 c7 c8 c9 c10 c11 c12
        obtain ⟨c0, c1, c2, c3, c4, c5, c6, c7, c8, c9, c10, c11, c12⟩ := blk13 hB8
        have f12 := hB8.frozen 12
        go_upto_region 12 with (fail)
        have e28 : n - 20 - 20 = (b.drop 40).length := by omega
        have hQ : opn b = ⟨b1 b 1, b2 b 4, b1 b 8, ⟨6, b4 b 12, b2 b 20, b4 b 16, b2 b 22⟩, b4 b 24, b4 b 28, b1 b 33, b2 b 34, b.drop 40⟩ := by
          unfold opn
          rw [h9]
          rfl
        have hB6 : Blk (w8.setCell ⟨g4, 12, none⟩ (.slice B (n - 20 - 20) d)) g4 52 (pkc (opn b) B d) := by
          rw [hQ, e28]
          exact hB8.set_ 12 _
        have HO6 := Lib.hid (own_set (i := 12) (u := .slice B (n - 20 - 20) d) hg1 HO5.out)
        have hb6 : Below wa.heap.size wa (w8.setCell ⟨g4, 12, none⟩ (.slice B (n - 20 - 20) d)) := hb8.setCell hg4 _
        generalize w8.setCell ⟨g4, 12, none⟩ (.slice B (n - 20 - 20) d) = w6 at *
        have hG6 := (hG.below hb6 hG.lt)
        have HQ := Lib.hid (congrArg Pk.data hQ)
        clear hQ
        clear hB8 HO5 hb8 f12 c0 c1 c2 c3 c4 c5 c6 c7 c8 c9 c10 c11 c12
        obtain ⟨c0, c1, c2, c3, c4, c5, c6, c7, c8, c9, c10, c11, c12⟩ := blk13 hB6
        obtain ⟨cs, hcs⟩ : ∃ cs : Array Value, #[.int .i64 (opn b).tos, .int .i64 (opn b).id, .int .i64 (opn b).ttl, .int .i64 (opn b).fl.proto, .int .u32 (opn b).fl.src, .int .i64 (opn b).fl.sp, .int .u32 (opn b).fl.dst, .int .i64 (opn b).fl.dp, .int .u32 (opn b).seq, .int .u32 (opn b).ack, .int .i64 (opn b).flags, .int .i64 (opn b).win, .slice B (opn b).data.length d] = cs := ⟨_, rfl⟩
        have hsz : cs.size = 13 := by rw [← hcs]; rfl
        have hsl : cs.toList.length = 13 := by rw [← hcs]; rfl
        have hone : ∀ v ∈ cs.toList, v.oneCell' = true := by
          rw [← hcs]
          intro v hv
          simp at hv
          rcases hv with rfl | rfl | rfl | rfl | rfl | rfl | rfl | rfl | rfl | rfl | rfl | rfl | rfl <;> rfl
        have hst := store_at (P := Try.prog) cs hG6 hsl hone
        have hB7 : Blk (w6.setRow w.heap.size cs) w.heap.size 52 (pkc (opn b) B d) := by
          rw [← hcs]
          exact hG6.row _
        have HO7 := Lib.hid (own_row (g := w.heap.size) (c := cs) (by omega) HO6.out)
        have hb7 : Below w.heap.size w (w6.setRow w.heap.size cs) := below_row (below_call hb0 hb6) (Nat.le_refl _)
        generalize w6.setRow w.heap.size cs = w7 at *
        clear hone
        go_wp2_with fail
        clear c0 c1 c2 c3 c4 c5 c6 c7 c8 c9 c10 c11 c12
        obtain ⟨c0, c1, c2, c3, c4, c5, c6, c7, c8, c9, c10, c11, c12⟩ := blk13 hB7
        (try simp only [Exit.inBlock, Exit.then])
        refine bodyPost_ret (by simp [results, Try.results42, go_sem, c0, c1, c2, c3, c4, c5, c6, c7, c8, c9, c10, c11, c12]; try rfl) rfl ?_
        refine ⟨B, d, rfl, ?_, hb7⟩
        have h7 := own_weaken HO7.out (show w.heap.size ≤ w1.heap.size by omega)
        unfold PkO
        rw [HQ.out, ← e28]
        exact h7
end Go.Proofs.Ytbhdjalpkecbeaa
