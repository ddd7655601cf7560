/- The walk of RewriteSides. -/
import Derived.Test.YtbhdjalpkecbeaaRwUni
import Derived.Test.YtbhdjalpkecbeaaApart
namespace Go.Proofs.Ytbhdjalpkecbeaa
set_option linter.unusedVariables false
set_option linter.unusedSimpArgs false
open Go.RowKit

theorem own_marked4 {w : World} {g base n : Nat} {xs : List UInt8} (hn : xs.length = n) (h : Blk w g 5 ((marked xs).map bv)) (hb : base ≤ g) (hl : n ≤ 4000000) : w.ownsRow base 5 1 (.slice (some ⟨g, 0, none⟩) n (n + 2)) n (xs.map bv) := by
  subst hn
  exact ⟨by simp, .inr ⟨g, xs.length + 2, ((marked xs).map bv).toArray, rfl, hb, h, by omega, by unfold maxLen; omega, by simp [marked], by simp [marked]⟩⟩
theorem kept4_n (xs : List UInt8) (g : Nat) (A : Option Addr) (n c : Nat) (w : World) (hn : xs.length = n) (hA : RB w A xs) (hg : Blk w g 5 ((marked xs).map bv)) (hl : n ≤ 4000000) :
    Calls Try.prog 22 #[.slice (some ⟨g, 0, none⟩) n (n + 2), .slice A n c] w fun e w' => e = .returned (.bool true) ∧ Below w.heap.size w w' := by
  subst hn
  exact kept_any xs g A c w hA hg hl
theorem copy4_n (xs : List UInt8) (A : Option Addr) (n c : Nat) (w : World) (hn : xs.length = n) (hA : RB w A xs) (hc : n ≤ c) (hl : n ≤ 4000000) :
    Calls Try.prog 17 #[.slice A n c] w fun e w' => ∃ g, e = .returned (.slice (some ⟨g, 0, none⟩) n (n + 2)) ∧ w.heap.size ≤ g ∧ Blk w' g 5 ((marked xs).map bv) ∧ Below w.heap.size w w' := by
  subst hn
  exact copy_any xs A c w hA hc hl
set_option maxRecDepth 100000 in
set_option maxHeartbeats 12800000 in
theorem RewriteSides_walk (l : List UInt8) (B : Option Addr) (c : Nat) (xa xp : Int) (f : Fl) (w : World) (hc : l.length ≤ c) (hB : RB w B l) (hbl : l.length ≤ 1048576) (hxa : 0 ≤ xa ∧ xa ≤ 4294967295) (hs : 0 ≤ f.src ∧ f.src ≤ 4294967295) (hd : 0 ≤ f.dst ∧ f.dst ≤ 4294967295) :
    Calls Try.prog 7 #[.agg #[.slice B l.length c, .int .u32 xa, .int .i64 xp, .int .i64 f.proto, .int .u32 f.src, .int .i64 f.sp, .int .u32 f.dst, .int .i64 f.dp]] w fun e w' => e = .returned (.bool true) ∧ Below w.heap.size w w' := by
  have HXA := Lib.hid hxa
  have HS := Lib.hid hs
  have HD := Lib.hid hd
  clear hxa hs hd
  have hb0 : Below w.heap.size w (w.alloc (.cells #[.slice B l.length c, .int .u32 xa, .int .i64 xp, .int .i64 f.proto, .int .u32 f.src, .int .i64 f.sp, .int .u32 f.dst, .int .i64 f.dp] 28)) := (Below.refl _ w).alloc (Nat.le_refl _) _
  have hX : Blk (w.alloc (.cells #[.slice B l.length c, .int .u32 xa, .int .i64 xp, .int .i64 f.proto, .int .u32 f.src, .int .i64 f.sp, .int .u32 f.dst, .int .i64 f.dp] 28)) w.heap.size 28 [.slice B l.length c, .int .u32 xa, .int .i64 xp, .int .i64 f.proto, .int .u32 f.src, .int .i64 f.sp, .int .u32 f.dst, .int .i64 f.dp] := Blk.new w _ _
  go_enter Try.func7, Try.ntmps7
  go_wp2_with fail
  generalize (w.alloc (.cells #[.slice B l.length c, .int .u32 xa, .int .i64 xp, .int .i64 f.proto, .int .u32 f.src, .int .i64 f.sp, .int .u32 f.dst, .int .i64 f.dp] 28)) = wa at *
  have hsa := hb0.size
  (with_reducible refine (alive_any wa).mono ?_)
  rintro e w1 ⟨rfl, hb1⟩
  have d0 := below_call hb0 hb1
  have hs1 := hb1.size
  replace hX := hX.kept hb1
  clear hb0 hb1
  obtain ⟨n, hn⟩ : ∃ n, n = l.length := ⟨_, rfl⟩
  have HN := Lib.hid hn.symm
  rw [← hn] at hX hc hbl ⊢
  clear hn
  obtain ⟨c0, c1, c2, c3, c4, c5, c6, c7⟩ := blk8 hX
  go_wp2_with fail
  (with_reducible refine (copy4_n l B n c w1 HN.out (hB.below d0) hc (by omega)).mono ?_)
  rintro e w2 ⟨gd, rfl, hgd, hK, hb⟩
  replace d0 := below_call d0 hb
  have hs2 := hb.size
  clear c0 c1 c2 c3 c4 c5 c6 c7
  replace hX := hX.kept hb
  clear hb
  obtain ⟨c0, c1, c2, c3, c4, c5, c6, c7⟩ := blk8 hX
  have hgl := hK.lt
  go_wp2_with fail
  (with_reducible refine (source_u l (some ⟨gd, 0, none⟩) n (n + 2) xa xp w2 HN.out (marked_rb hK) (by omega) HXA.out).mono ?_)
  rintro e w3 ⟨X1, m1, k1, rfl, hk1, hm1, HL1, hR1, HO1, hb⟩
  replace d0 := below_call d0 hb
  have hs3 := hb.size
  clear c0 c1 c2 c3 c4 c5 c6 c7
  replace hX := hX.kept hb
  replace hK := hK.kept hb
  clear hb
  obtain ⟨c0, c1, c2, c3, c4, c5, c6, c7⟩ := blk8 hX
  have d3 : Below w3.heap.size w3 w3 := Below.refl _ _
  go_wp2_with fail
  (with_reducible refine (dest_u l (some ⟨gd, 0, none⟩) n (n + 2) xa xp w3 HN.out (marked_rb hK) (by omega) HXA.out).mono ?_)
  rintro e w4 ⟨X2, m2, k2, rfl, hk2, hm2, HL2, hR2, HO2, hb⟩
  replace d0 := below_call d0 hb
  replace d3 := below_call d3 hb
  have hs4 := hb.size
  clear c0 c1 c2 c3 c4 c5 c6 c7
  replace hX := hX.kept hb
  replace hK := hK.kept hb
  clear hb
  obtain ⟨c0, c1, c2, c3, c4, c5, c6, c7⟩ := blk8 hX
  have d4 : Below w4.heap.size w4 w4 := Below.refl _ _
  go_wp2_with fail
  (with_reducible refine (both_u l f (some ⟨gd, 0, none⟩) n (n + 2) w4 HN.out (marked_rb hK) (by omega) HS.out HD.out).mono ?_)
  rintro e w5 ⟨X3, m3, k3, rfl, hk3, hm3, HL3, hR3, HO3, hb⟩
  replace d0 := below_call d0 hb
  replace d3 := below_call d3 hb
  replace d4 := below_call d4 hb
  have hs5 := hb.size
  clear c0 c1 c2 c3 c4 c5 c6 c7
  replace hX := hX.kept hb
  replace hK := hK.kept hb
  clear hb
  obtain ⟨c0, c1, c2, c3, c4, c5, c6, c7⟩ := blk8 hX
  have d5 : Below w5.heap.size w5 w5 := Below.refl _ _
  go_wp2_with fail
  (with_reducible refine (rsource_u l B n c xa xp w5 HN.out (hB.below d0) hc (by omega) HXA.out).mono ?_)
  rintro e w6 ⟨X4, m4, k4, rfl, HL4, hR4, hb⟩
  replace d0 := below_call d0 hb
  replace d3 := below_call d3 hb
  replace d4 := below_call d4 hb
  replace d5 := below_call d5 hb
  have hs6 := hb.size
  clear c0 c1 c2 c3 c4 c5 c6 c7
  replace hX := hX.kept hb
  replace hK := hK.kept hb
  clear hb
  obtain ⟨c0, c1, c2, c3, c4, c5, c6, c7⟩ := blk8 hX
  have d6 : Below w6.heap.size w6 w6 := Below.refl _ _
  go_wp2_with fail
  (with_reducible refine (rdest_u l B n c xa xp w6 HN.out (hB.below d0) hc (by omega) HXA.out).mono ?_)
  rintro e w7 ⟨X5, m5, k5, rfl, HL5, hR5, hb⟩
  replace d0 := below_call d0 hb
  replace d3 := below_call d3 hb
  replace d4 := below_call d4 hb
  replace d5 := below_call d5 hb
  replace d6 := below_call d6 hb
  have hs7 := hb.size
  clear c0 c1 c2 c3 c4 c5 c6 c7
  replace hX := hX.kept hb
  replace hK := hK.kept hb
  clear hb
  obtain ⟨c0, c1, c2, c3, c4, c5, c6, c7⟩ := blk8 hX
  have d7 : Below w7.heap.size w7 w7 := Below.refl _ _
  go_wp2_with fail
  (with_reducible refine (rboth_u l f B n c w7 HN.out (hB.below d0) hc (by omega) HS.out HD.out).mono ?_)
  rintro e w8 ⟨X6, m6, k6, rfl, HL6, hR6, hb⟩
  replace d0 := below_call d0 hb
  replace d3 := below_call d3 hb
  replace d4 := below_call d4 hb
  replace d5 := below_call d5 hb
  replace d6 := below_call d6 hb
  replace d7 := below_call d7 hb
  have hs8 := hb.size
  clear c0 c1 c2 c3 c4 c5 c6 c7
  replace hX := hX.kept hb
  replace hK := hK.kept hb
  clear hb
  obtain ⟨c0, c1, c2, c3, c4, c5, c6, c7⟩ := blk8 hX
  have d8 : Below w8.heap.size w8 w8 := Below.refl _ _
  have s1 := run_str (P := Try.prog) _ _ _ _ Try.underlying22 Try.underlying5 Try.underlying9 _ m1 k1 _ (hR1.below d3) HL1.out
  have s2 := run_str (P := Try.prog) _ _ _ _ Try.underlying22 Try.underlying5 Try.underlying9 _ m2 k2 _ (hR2.below d4) HL2.out
  have s3 := run_str (P := Try.prog) _ _ _ _ Try.underlying22 Try.underlying5 Try.underlying9 _ m3 k3 _ (hR3.below d5) HL3.out
  have s4 := run_str (P := Try.prog) _ _ _ _ Try.underlying22 Try.underlying5 Try.underlying9 _ m4 k4 _ (hR4.below d6) HL4.out
  have s5 := run_str (P := Try.prog) _ _ _ _ Try.underlying22 Try.underlying5 Try.underlying9 _ m5 k5 _ (hR5.below d7) HL5.out
  have s6 := run_str (P := Try.prog) _ _ _ _ Try.underlying22 Try.underlying5 Try.underlying9 _ m6 k6 _ (hR6.below d8) HL6.out
  have HD12 := Lib.hid (own_apt HO1.out HO2.out (Nat.le_refl _))
  have HD13 := Lib.hid (own_apt HO1.out HO3.out (show w3.heap.size ≤ w4.heap.size by omega))
  have HD23 := Lib.hid (own_apt HO2.out HO3.out (Nat.le_refl _))
  clear d6
  clear d7
  clear d8
  clear hR1
  clear hR2
  clear hR3
  clear hR4
  clear hR5
  clear hR6
  go_wp2_with fail
  (with_reducible refine (num_ev _ _).mono ?_)
  rintro e wn0 ⟨rfl, rfl⟩
  clear s1 s2 s3 s4 s5 s6
  go_wp2_with fail
  (with_reducible refine (num_ev _ _).mono ?_)
  rintro e wn1 ⟨rfl, rfl⟩
  go_wp2_with fail
  (with_reducible refine (num_ev _ _).mono ?_)
  rintro e wn2 ⟨rfl, rfl⟩
  go_wp2_with fail
  (with_reducible refine (kept4_n l gd B n c _ HN.out (hB.below d0) hK (by omega)).mono ?_)
  rintro e w20 ⟨rfl, hb⟩
  replace d0 := below_call d0 hb
  have hs20 := hb.size
  replace d3 := below_call d3 hb
  replace d4 := below_call d4 hb
  replace d5 := below_call d5 hb
  have HP1 := Lib.hid (own_weaken (own_below HO1.out d3) (show w.heap.size ≤ w2.heap.size by omega))
  have HP2 := Lib.hid (own_weaken (own_below HO2.out d4) (show w.heap.size ≤ w3.heap.size by omega))
  have HP3 := Lib.hid (own_weaken (own_below HO3.out d5) (show w.heap.size ≤ w4.heap.size by omega))
  clear hK hb HO1 HO2 HO3 d3 d4 d5
  have hz := d0.size
  go_wp2_with fail
  (with_reducible refine (apart3 w.heap.size _ _ _ m1 m2 m3 _ _ _ 22 w20 (by omega) (by omega) (by omega) (by omega) HP1.out HP2.out HP3.out HD12.out HD13.out HD23.out rfl).mono ?_)
  rintro e w21 ⟨rfl, hb⟩
  have hw := (below_al d0 _).trans hb
  go_wp2_with fail
  go_ret
  exact ⟨rfl, hw⟩
theorem RewriteSidesX_walk {H : Type} {da : DataW H} (x : Rwn) (v : Value) (w : World) (o : RwIs w v da x) (b : Rows.uptoBulk da ≤ 1048576) :
    Calls Try.prog 7 #[v] w fun e w' => e = .returned (.bool true) ∧ Below w.heap.size w w' := by
  obtain ⟨B, c, rfl, h1, h2, h3, h4, h5, h6⟩ := o
  exact RewriteSides_walk x.l B c x.a x.port x.f w h1 h2 (by omega) h3 h4 h5
end Go.Proofs.Ytbhdjalpkecbeaa
