/- The walk of packet.open, of bytes that are no packet. -/
import Derived.Test.YtbhdjalpkecbeaaOpnT
namespace Go.Proofs.Ytbhdjalpkecbeaa
set_option linter.unusedVariables false
set_option linter.unusedSimpArgs false
open Go.RowKit

def OpB2 (wx : World) (g : Nat) (b : List UInt8) (wy : World) : Prop := Blk wy g 52 (pkc ⟨b1 b 1, b2 b 4, b1 b 8, ⟨b1 b 9, b4 b 12, 0, b4 b 16, 0⟩, 0, 0, 0, 0, []⟩ none 0) ∧ Below wx.heap.size wx wy
abbrev zeros : Array Value := #[.int .i64 0, .int .i64 0, .int .i64 0, .int .i64 0, .int .u32 0, .int .i64 0, .int .u32 0, .int .i64 0, .int .u32 0, .int .u32 0, .int .i64 0, .int .i64 0, .slice none 0 0]
theorem zeros_one : ∀ v ∈ zeros.toList, v.oneCell' = true := by
  simp [zeros, Value.oneCell']

set_option maxRecDepth 100000 in
set_option maxHeartbeats 1600000 in
theorem open_short (b : List UInt8) (A : Option Addr) (c : Nat) (w : World) (h1 : b.length < 20 ∨ 1500 < b.length) :
    Calls Try.prog 42 #[.slice A b.length c] w fun e w' => e = .returned (.tuple #[pkv pk0 none 0, .bool false]) ∧ Below w.heap.size w w' := by
  have hb0 : Below w.heap.size w (w.alloc (.cells #[.int .i64 0, .int .i64 0, .int .i64 0, .int .i64 0, .int .u32 0, .int .i64 0, .int .u32 0, .int .i64 0, .int .u32 0, .int .u32 0, .int .i64 0, .int .i64 0, .slice none 0 0] 52)) := (Below.refl _ w).alloc (Nat.le_refl _) _
  have hG : Blk (w.alloc (.cells #[.int .i64 0, .int .i64 0, .int .i64 0, .int .i64 0, .int .u32 0, .int .i64 0, .int .u32 0, .int .i64 0, .int .u32 0, .int .u32 0, .int .i64 0, .int .i64 0, .slice none 0 0] 52)) w.heap.size 52 (pkc pk0 none 0) := Blk.new w _ _
  go_enter Try.func42, Try.ntmps42
  obtain ⟨n, hn⟩ : ∃ n, n = b.length := ⟨_, rfl⟩
  rw [← hn] at h1 ⊢
  clear hn
  by_cases h20 : n < 20
  · have hn1 : ((n : Int) < 20) = True := by simp; omega
    clear h1 h20
    go_upto_region 2 with (fail)
    generalize w.alloc (.cells #[.int .i64 0, .int .i64 0, .int .i64 0, .int .i64 0, .int .u32 0, .int .i64 0, .int .u32 0, .int .i64 0, .int .u32 0, .int .u32 0, .int .i64 0, .int .i64 0, .slice none 0 0] 52) = wa at *
    obtain ⟨cs, hcs⟩ : ∃ cs : Array Value, #[.int .i64 0, .int .i64 0, .int .i64 0, .int .i64 0, .int .u32 0, .int .i64 0, .int .u32 0, .int .i64 0, .int .u32 0, .int .u32 0, .int .i64 0, .int .i64 0, .slice none 0 0] = cs := ⟨_, rfl⟩
    have hsz : cs.size = 13 := by rw [← hcs]; rfl
    have hsl : cs.toList.length = 13 := by rw [← hcs]; rfl
    have hone : ∀ v ∈ cs.toList, v.oneCell' = true := by rw [← hcs]; exact zeros_one
    have hst := store_at (P := Try.prog) cs hG hsl hone
    have hB7 : Blk (wa.setRow w.heap.size cs) w.heap.size 52 (pkc pk0 none 0) := by
      rw [← hcs]
      exact hG.row _
    have hb7 : Below w.heap.size w (wa.setRow w.heap.size cs) := below_row hb0 (Nat.le_refl _)
    generalize wa.setRow w.heap.size cs = w7 at *
    clear hone
    go_wp2_with fail
    obtain ⟨c0, c1, c2, c3, c4, c5, c6, c7, c8, c9, c10, c11, c12⟩ := blk13 hB7
    (try simp only [Exit.inBlock, Exit.then])
    refine bodyPost_ret (by simp [results, Try.results42, go_sem, c0, c1, c2, c3, c4, c5, c6, c7, c8, c9, c10, c11, c12]; try rfl) rfl ?_
    exact ⟨rfl, hb7⟩
  · have hn1 : ((n : Int) < 20) = False := by simp; omega
    have hn2 : ((1500 : Int) < (n : Int)) = True := by simp; omega
    clear h1 h20
    go_upto_region 2 with (fail)
    generalize w.alloc (.cells #[.int .i64 0, .int .i64 0, .int .i64 0, .int .i64 0, .int .u32 0, .int .i64 0, .int .u32 0, .int .i64 0, .int .u32 0, .int .u32 0, .int .i64 0, .int .i64 0, .slice none 0 0] 52) = wa at *
    obtain ⟨cs, hcs⟩ : ∃ cs : Array Value, #[.int .i64 0, .int .i64 0, .int .i64 0, .int .i64 0, .int .u32 0, .int .i64 0, .int .u32 0, .int .i64 0, .int .u32 0, .int .u32 0, .int .i64 0, .int .i64 0, .slice none 0 0] = cs := ⟨_, rfl⟩
    have hsz : cs.size = 13 := by rw [← hcs]; rfl
    have hsl : cs.toList.length = 13 := by rw [← hcs]; rfl
    have hone : ∀ v ∈ cs.toList, v.oneCell' = true := by rw [← hcs]; exact zeros_one
    have hst := store_at (P := Try.prog) cs hG hsl hone
    have hB7 : Blk (wa.setRow w.heap.size cs) w.heap.size 52 (pkc pk0 none 0) := by
      rw [← hcs]
      exact hG.row _
    have hb7 : Below w.heap.size w (wa.setRow w.heap.size cs) := below_row hb0 (Nat.le_refl _)
    generalize wa.setRow w.heap.size cs = w7 at *
    clear hone
    go_wp2_with fail
    obtain ⟨c0, c1, c2, c3, c4, c5, c6, c7, c8, c9, c10, c11, c12⟩ := blk13 hB7
    (try simp only [Exit.inBlock, Exit.then])
    refine bodyPost_ret (by simp [results, Try.results42, go_sem, c0, c1, c2, c3, c4, c5, c6, c7, c8, c9, c10, c11, c12]; try rfl) rfl ?_
    exact ⟨rfl, hb7⟩
set_option maxRecDepth 100000 in
set_option maxHeartbeats 3200000 in
theorem open_bad (b : List UInt8) (ad : Addr) (c : Nat) (w : World) (hA : RB w (some ad) b) (hc : b.length ≤ c) (h1 : 20 ≤ b.length) (h2 : b.length ≤ 1500) (h9 : (b1 b 9 ≠ 6 ∧ b1 b 9 ≠ 17) ∨ (b1 b 9 = 17 ∧ b.length < 28) ∨ (b1 b 9 = 6 ∧ b.length < 40)) :
    Calls Try.prog 42 #[.slice (some ad) b.length c] w fun e w' => e = .returned (.tuple #[pkv pk0 none 0, .bool false]) ∧ Below w.heap.size w w' := by
  have hb0 : Below w.heap.size w (w.alloc (.cells #[.int .i64 0, .int .i64 0, .int .i64 0, .int .i64 0, .int .u32 0, .int .i64 0, .int .u32 0, .int .i64 0, .int .u32 0, .int .u32 0, .int .i64 0, .int .i64 0, .slice none 0 0] 52)) := (Below.refl _ w).alloc (Nat.le_refl _) _
  have hG : Blk (w.alloc (.cells #[.int .i64 0, .int .i64 0, .int .i64 0, .int .i64 0, .int .u32 0, .int .i64 0, .int .u32 0, .int .i64 0, .int .u32 0, .int .u32 0, .int .i64 0, .int .i64 0, .slice none 0 0] 52)) w.heap.size 52 (pkc pk0 none 0) := Blk.new w _ _
  have hA1 := hA.below hb0
  have hn1 : ((b.length : Int) < 20) = False := by simp; omega
  go_enter Try.func42, Try.ntmps42
  go_upto_region 3 with (fail)
  generalize w.alloc (.cells #[.int .i64 0, .int .i64 0, .int .i64 0, .int .i64 0, .int .u32 0, .int .i64 0, .int .u32 0, .int .i64 0, .int .u32 0, .int .u32 0, .int .i64 0, .int .i64 0, .slice none 0 0] 52) = wa at *
  obtain ⟨n, hn⟩ : ∃ n, n = b.length := ⟨_, rfl⟩
  rw [← hn] at hc h1 h2 h9 ⊢
  have HN := Lib.hid hn.symm
  have x1 := rb_b1 hA1 1 (by omega) (by omega)
  have x8 := rb_b1 hA1 8 (by omega) (by omega)
  have x9 := rb_b1 hA1 9 (by omega) (by omega)
  have i9 := b1_lt b 9
  have q9 : IntKind.i64.wrap (b1 b 9 : Int) = (b1 b 9 : Int) := IntWalk.i64_in _ (by omega)
  have H9 := Lib.hid h9
  clear h9
  clear hn hn1
  have k1 : (1 : Int) < (n : Int) := by omega
  have k8 : (8 : Int) < (n : Int) := by omega
  have k9 : (9 : Int) < (n : Int) := by omega
  go_cut [4] (fun v wx => OpR1 wa b v wx)
  case first =>
    have hcur : Below wa.heap.size wa wa.drew := Below.drew (Below.refl _ wa)
    have hca : Below wa.heap.size wa (wa.alloc (.cells #[.int .i64 0, .int .i64 0, .int .i64 0, .int .i64 0, .int .u32 0, .int .i64 0, .int .u32 0, .int .i64 0, .int .u32 0, .int .u32 0, .int .i64 0, .int .i64 0, .slice none 0 0] 52)).drew := Below.drew ((Below.refl _ wa).alloc (Nat.le_refl _) _)
    have hBa : Blk (wa.alloc (.cells #[.int .i64 0, .int .i64 0, .int .i64 0, .int .i64 0, .int .u32 0, .int .i64 0, .int .u32 0, .int .i64 0, .int .u32 0, .int .u32 0, .int .i64 0, .int .i64 0, .slice none 0 0] 52)).drew wa.heap.size 52 (pkc pk0 none 0) := Blk.new wa _ _
    have i1 := b1_lt b 1
    have i8 := b1_lt b 8
    have q1 : IntKind.i64.wrap (b1 b 1 : Int) = (b1 b 1 : Int) := IntWalk.i64_in _ (by omega)
    have q8 : IntKind.i64.wrap (b1 b 8 : Int) = (b1 b 8 : Int) := IntWalk.i64_in _ (by omega)
    obtain ⟨cs, hcs⟩ : ∃ cs : Array Value, #[.int .i64 (b1 b 1 : Int), .int .i64 (b2 b 4 : Int), .int .i64 (b1 b 8 : Int), .int .i64 0, .int .u32 0, .int .i64 0, .int .u32 0, .int .i64 0, .int .u32 0, .int .u32 0, .int .i64 0, .int .i64 0, .slice none 0 0] = cs := ⟨_, rfl⟩
    have hsz : cs.size = 13 := by rw [← hcs]; rfl
    have hsl : cs.toList.length = 13 := by rw [← hcs]; rfl
    have hone : ∀ v ∈ cs.toList, v.oneCell' = true := by
      rw [← hcs]
      intro v hv
      simp at hv
      rcases hv with rfl | rfl | rfl | rfl | rfl | rfl | rfl | rfl | rfl | rfl | rfl | rfl | rfl <;> rfl
    have Hone := Lib.hid hone
    clear hone
    go_region_held3 (fun w' => w'.cell? ⟨ad.block, ad.off + 1, none⟩ = some (.int .u8 (b1 b 1 : Int)) ∧ w'.cell? ⟨ad.block, ad.off + 8, none⟩ = some (.int .u8 (b1 b 8 : Int)))
      (first | with_reducible exact ⟨x1, x8⟩ | with_reducible exact keep2 hcur x1 x8 | with_reducible exact keep2 hca x1 x8 | with_reducible exact keep2 (below_al hcur _) x1 x8 | with_reducible exact keep2 (below_row hca (Nat.le_refl _)) x1 x8 | with_reducible exact keep2 (below_row (below_al hcur _) hcur.size) x1 x8)
      (first
        | (go_at_call 52; (with_reducible refine (btwo_b b (some ad) n c 4 4 _ (hA1.below hcur) HN.out (by omega) (by omega) rfl).mono ?_); rintro e w6 ⟨rfl, hb6⟩; replace hcur := below_call hcur hb6; have hst := store_new (P := Try.prog) w6 cs hsl Hone.out)
        | (go_at_call 52; (with_reducible refine (btwo_b b (some ad) n c 4 4 _ (hA1.below hca) HN.out (by omega) (by omega) rfl).mono ?_); rintro e w6 ⟨rfl, hb6⟩; replace hca := below_call hca hb6; have hBb := hBa.kept hb6; have hst := store_at (P := Try.prog) cs hBb hsl Hone.out))
    focus
      go_wp2_with fail
      go_meet
      rw [← hcs]
      exact ⟨_, rfl, hcur.size, Blk.row (Blk.new w6 _ (pkc pk0 none 0)) _, below_row (below_al hcur _) hcur.size⟩
    focus
      go_wp2_with fail
      go_meet
      rw [← hcs]
      exact ⟨_, rfl, Nat.le_refl _, Blk.row hBb _, below_row hca (Nat.le_refl _)⟩
  case rest =>
    obtain ⟨g4, rfl, hg4, hB, hbx⟩ := id hcut
    clear hcut
    obtain ⟨wx, hwx⟩ : ∃ x, x = wc := ⟨_, rfl⟩
    subst hwx
    clear x1 x8
    have hgw := hG.lt
    go_upto_region 4 with (fail)
    go_cut [] (fun wy => OpB2 wa g4 b wy)
    case first =>
      have hcur : Below wa.heap.size wa wx.drew := Below.drew hbx
      have hBd : Blk wx.drew g4 52 (pkc ⟨b1 b 1, b2 b 4, b1 b 8, ⟨0, 0, 0, 0, 0⟩, 0, 0, 0, 0, []⟩ none 0) := hB
      obtain ⟨fs, hfs⟩ : ∃ fs : Array Value, #[.int .i64 (b1 b 9 : Int), .int .u32 (b4 b 12 : Int), .int .i64 0, .int .u32 (b4 b 16 : Int), .int .i64 0] = fs := ⟨_, rfl⟩
      have hsz : fs.size = 5 := by rw [← hfs]; rfl
      have hsl : fs.toList.length = 5 := by rw [← hfs]; rfl
      have hone : ∀ v ∈ fs.toList, v.oneCell' = true := by
        rw [← hfs]
        intro v hv
        simp at hv
        rcases hv with rfl | rfl | rfl | rfl | rfl <;> rfl
      have Hone := Lib.hid hone
      clear hone
      go_region_held3 (fun w' => w'.cell? ⟨ad.block, ad.off + 9, none⟩ = some (.int .u8 (b1 b 9 : Int)))
        (first | with_reducible exact keep1 hcur x9 | with_reducible exact keep1 (hb7 hcur hg4) x9)
        (first
          | (go_at_call 53; (with_reducible refine (bfour_b b (some ad) n c 12 12 _ (hA1.below hcur) HN.out (by omega) (by omega) rfl).mono ?_); rintro e w6 ⟨rfl, hb6⟩; replace hcur := below_call hcur hb6; replace hBd := hBd.kept hb6; obtain ⟨w7, hst, hB7, hb7⟩ := store_fl (P := Try.prog) fs hBd hsl Hone.out)
          | (go_at_call 53; (with_reducible refine (bfour_b b (some ad) n c 16 16 _ (hA1.below hcur) HN.out (by omega) (by omega) rfl).mono ?_); rintro e w6 ⟨rfl, hb6⟩; replace hcur := below_call hcur hb6; replace hBd := hBd.kept hb6; obtain ⟨w7, hst, hB7, hb7⟩ := store_fl (P := Try.prog) fs hBd hsl Hone.out))
      all_goals
        go_wp2_with fail
        go_meet
        rw [← hfs] at hB7
        exact ⟨hB7, hb7 hcur hg4⟩
    case rest =>
      obtain ⟨hB2, hb2⟩ := id hcut
      clear hcut hB hbx x9 k1 k8 k9
      obtain ⟨c0, c1, c2, c3, c4, c5, c6, c7, c8, c9, c10, c11, c12⟩ := blk13 hB2
      obtain ⟨wz, hwz⟩ : ∃ x, x = wc := ⟨_, rfl⟩
      subst hwz
      obtain ⟨A20, hA20⟩ : ∃ A, (if c = 20 then some ad else some (⟨ad.block, ad.off + 20, none⟩ : Addr)) = A := ⟨_, rfl⟩
      have n20 : (20 : Int) ≤ (n : Int) := by omega
      have n20c : (20 : Int) ≤ (c : Int) := by omega
      have nc : (n : Int) ≤ (c : Int) := by omega
      have l20 : (b.drop 20).length = n - 20 := by rw [List.length_drop, HN.out]
      have hG6 := (hG.below hb2 hG.lt)
      have hbb := below_call hb0 hb2
      obtain ⟨m, hm⟩ : ∃ m, b1 b 9 = m := ⟨_, rfl⟩
      have H9' := H9.out
      rw [hm] at H9' c3
      clear H9 hm
      rcases H9' with ⟨h6, h17⟩ | ⟨rfl, h28⟩ | ⟨rfl, h40⟩
      · have h6' : ((m : Int) = 6) = False := by simp; omega
        have h17' : ((m : Int) = 17) = False := by simp; omega
        go_upto_region 7 with (fail)
        clear c0 c1 c2 c3 c4 c5 c6 c7 c8 c9 c10 c11 c12
        obtain ⟨cs, hcs⟩ : ∃ cs : Array Value, #[.int .i64 0, .int .i64 0, .int .i64 0, .int .i64 0, .int .u32 0, .int .i64 0, .int .u32 0, .int .i64 0, .int .u32 0, .int .u32 0, .int .i64 0, .int .i64 0, .slice none 0 0] = cs := ⟨_, rfl⟩
        have hsz : cs.size = 13 := by rw [← hcs]; rfl
        have hsl : cs.toList.length = 13 := by rw [← hcs]; rfl
        have hone : ∀ v ∈ cs.toList, v.oneCell' = true := by rw [← hcs]; exact zeros_one
        have hst := store_at (P := Try.prog) cs hG6 hsl hone
        have hB7 : Blk (wz.setRow w.heap.size cs) w.heap.size 52 (pkc pk0 none 0) := by
          rw [← hcs]
          exact hG6.row _
        have hb7 : Below w.heap.size w (wz.setRow w.heap.size cs) := below_row hbb (Nat.le_refl _)
        generalize wz.setRow w.heap.size cs = w7 at *
        clear hone
        go_wp2_with fail
        obtain ⟨c0, c1, c2, c3, c4, c5, c6, c7, c8, c9, c10, c11, c12⟩ := blk13 hB7
        (try simp only [Exit.inBlock, Exit.then])
        refine bodyPost_ret (by simp [results, Try.results42, go_sem, c0, c1, c2, c3, c4, c5, c6, c7, c8, c9, c10, c11, c12]; try rfl) rfl ?_
        exact ⟨rfl, hb7⟩
      · have n28 : (((n - 20 : Nat) : Int) < 8) := by omega
        have e20 : (n : Int).toNat - 20 = n - 20 := by omega
        go_wp2_with fail
        (with_reducible refine (headOf_udp wz).mono ?_)
        rintro e w1 ⟨rfl, rfl⟩
        go_upto_region 7 with (fail)
        clear c0 c1 c2 c3 c4 c5 c6 c7 c8 c9 c10 c11 c12
        obtain ⟨cs, hcs⟩ : ∃ cs : Array Value, #[.int .i64 0, .int .i64 0, .int .i64 0, .int .i64 0, .int .u32 0, .int .i64 0, .int .u32 0, .int .i64 0, .int .u32 0, .int .u32 0, .int .i64 0, .int .i64 0, .slice none 0 0] = cs := ⟨_, rfl⟩
        have hsz : cs.size = 13 := by rw [← hcs]; rfl
        have hsl : cs.toList.length = 13 := by rw [← hcs]; rfl
        have hone : ∀ v ∈ cs.toList, v.oneCell' = true := by rw [← hcs]; exact zeros_one
        have hst := store_at (P := Try.prog) cs hG6 hsl hone
        have hB7 : Blk (w1.setRow w.heap.size cs) w.heap.size 52 (pkc pk0 none 0) := by
          rw [← hcs]
          exact hG6.row _
        have hb7 : Below w.heap.size w (w1.setRow w.heap.size cs) := below_row hbb (Nat.le_refl _)
        generalize w1.setRow w.heap.size cs = w7 at *
        clear hone
        go_wp2_with fail
        obtain ⟨c0, c1, c2, c3, c4, c5, c6, c7, c8, c9, c10, c11, c12⟩ := blk13 hB7
        (try simp only [Exit.inBlock, Exit.then])
        refine bodyPost_ret (by simp [results, Try.results42, go_sem, c0, c1, c2, c3, c4, c5, c6, c7, c8, c9, c10, c11, c12]; try rfl) rfl ?_
        exact ⟨rfl, hb7⟩
      · have n28 : (((n - 20 : Nat) : Int) < 20) := by omega
        have e20 : (n : Int).toNat - 20 = n - 20 := by omega
        go_wp2_with fail
        (with_reducible refine (headOf_tcp wz).mono ?_)
        rintro e w1 ⟨rfl, rfl⟩
        go_upto_region 7 with (fail)
        clear c0 c1 c2 c3 c4 c5 c6 c7 c8 c9 c10 c11 c12
        obtain ⟨cs, hcs⟩ : ∃ cs : Array Value, #[.int .i64 0, .int .i64 0, .int .i64 0, .int .i64 0, .int .u32 0, .int .i64 0, .int .u32 0, .int .i64 0, .int .u32 0, .int .u32 0, .int .i64 0, .int .i64 0, .slice none 0 0] = cs := ⟨_, rfl⟩
        have hsz : cs.size = 13 := by rw [← hcs]; rfl
        have hsl : cs.toList.length = 13 := by rw [← hcs]; rfl
        have hone : ∀ v ∈ cs.toList, v.oneCell' = true := by rw [← hcs]; exact zeros_one
        have hst := store_at (P := Try.prog) cs hG6 hsl hone
        have hB7 : Blk (w1.setRow w.heap.size cs) w.heap.size 52 (pkc pk0 none 0) := by
          rw [← hcs]
          exact hG6.row _
        have hb7 : Below w.heap.size w (w1.setRow w.heap.size cs) := below_row hbb (Nat.le_refl _)
        generalize w1.setRow w.heap.size cs = w7 at *
        clear hone
        go_wp2_with fail
        obtain ⟨c0, c1, c2, c3, c4, c5, c6, c7, c8, c9, c10, c11, c12⟩ := blk13 hB7
        (try simp only [Exit.inBlock, Exit.then])
        refine bodyPost_ret (by simp [results, Try.results42, go_sem, c0, c1, c2, c3, c4, c5, c6, c7, c8, c9, c10, c11, c12]; try rfl) rfl ?_
        exact ⟨rfl, hb7⟩
end Go.Proofs.Ytbhdjalpkecbeaa
