/- The walk of addr.Hash. -/
import Derived.Test.YtfhdkcdhfdapbaaDoorAdLess
import Derived.Test.YtfhdkcdhfdapbaaDoorAdText
import Derived.Test.YtfhdkcdhfdapbaaDoorAdHash1
import Derived.Test.YtfhdkcdhfdapbaaDoorInv
import Derived.Deep.CutBlock
import Derived.Deep.DeepCutAuto
namespace Go.Proofs.YtfhdkcdhfdapbaaDoor
set_option linter.unusedVariables false
set_option linter.unusedSimpArgs false
open Go.RowKit Go.Sort

theorem bytesOf_n (a b0 b1 b2 b3 : Nat) (w : World) (h : a < 4294967296) (h0 : adB a 0 = b0 ∧ adB a 1 = b1 ∧ adB a 2 = b2 ∧ adB a 3 = b3) : Calls Tryd.prog 37 #[.int .u32 (a : Int)] w fun e w' => e = .returned (.agg #[.int .u8 (b0 : Int), .int .u8 (b1 : Int), .int .u8 (b2 : Int), .int .u8 (b3 : Int)]) ∧ Below w.heap.size w w' := by
  obtain ⟨rfl, rfl, rfl, rfl⟩ := h0
  exact bytesOf_any a w h
abbrev Zs : List Value := [.int .u8 0, .int .u8 0, .int .u8 0, .int .u8 0]
theorem cf4 {w : World} {g : Nat} {t : TypeId} {a b c d : Value} (h : Blk w g t [a, b, c, d]) : (w.cell? ⟨g, 0, none⟩ = some a ∧ w.cell? ⟨g, 1, none⟩ = some b ∧ w.cell? ⟨g, 2, none⟩ = some c ∧ w.cell? ⟨g, 3, none⟩ = some d) ∧ (w.frozen? ⟨g, 0, none⟩ = false ∧ w.frozen? ⟨g, 1, none⟩ = false ∧ w.frozen? ⟨g, 2, none⟩ = false ∧ w.frozen? ⟨g, 3, none⟩ = false) ∧ g < w.heap.size := ⟨⟨h.cell 0, h.cell 1, h.cell 2, h.cell 3⟩, ⟨h.frozen 0, h.frozen 1, h.frozen 2, h.frozen 3⟩, h.lt⟩
theorem sz1 (w : World) (o : Obj) : w.heap.size + 1 = (w.alloc o).heap.size := by simp
theorem cell_rule {X w' : World} (hb : Below X.heap.size X w') : ∀ (b o : Nat), b < X.heap.size → w'.cell? ⟨b, o, none⟩ = X.cell? ⟨b, o, none⟩ := fun b o h => by simp only [World.cell?, hb.block b h]
theorem frz_rule {X w' : World} (hb : Below X.heap.size X w') : ∀ (b o : Nat), b < X.heap.size → w'.frozen? ⟨b, o, none⟩ = X.frozen? ⟨b, o, none⟩ := fun b o h => by simp only [World.frozen?, hb.block b h]
theorem set4_blk {w : World} {g : Nat} {t : TypeId} {a0 a1 a2 a3 : Value} (h : Blk w g t [a0, a1, a2, a3]) (b0 b1 b2 b3 : Value) : Blk ((((w.setCell ⟨g, 0, none⟩ b0).setCell ⟨g, 1, none⟩ b1).setCell ⟨g, 2, none⟩ b2).setCell ⟨g, 3, none⟩ b3) g t [b0, b1, b2, b3] := by
  have h := (((h.set_ 0 b0).set_ 1 b1).set_ 2 b2).set_ 3 b3
  simpa using h
theorem set4_far {w : World} {g k : Nat} {t : TypeId} {cs : List Value} (h : Blk w k t cs) (hne : k ≠ g) (b0 b1 b2 b3 : Value) : Blk ((((w.setCell ⟨g, 0, none⟩ b0).setCell ⟨g, 1, none⟩ b1).setCell ⟨g, 2, none⟩ b2).setCell ⟨g, 3, none⟩ b3) k t cs :=
  (((h.far (p := ⟨g, 0, none⟩) hne _).far (p := ⟨g, 1, none⟩) hne _).far (p := ⟨g, 2, none⟩) hne _).far (p := ⟨g, 3, none⟩) hne _
theorem set4_bel {a w : World} {B g : Nat} (h : Below B a w) (hg : B ≤ g) (b0 b1 b2 b3 : Value) : Below B a ((((w.setCell ⟨g, 0, none⟩ b0).setCell ⟨g, 1, none⟩ b1).setCell ⟨g, 2, none⟩ b2).setCell ⟨g, 3, none⟩ b3) :=
  (((h.setCell hg _).setCell hg _).setCell hg _).setCell hg _
theorem mixL_four (h : Int) (a b c d : List UInt8) : mixL (mixL (mixL (mixL h a) b) c) d = mixL h (a ++ b ++ c ++ d) := by simp only [mixL_append]
/-- Both arrays stand. -/
def Ar (wa wx : World) (v7 v8 : Value) (s0 s1 s2 s3 d0 d1 d2 d3 : Nat) : Prop := ∃ g7 g8 : Nat, v7 = .pointer (some ⟨g7, 0, none⟩) ∧ v8 = .pointer (some ⟨g8, 0, none⟩) ∧ Blk wx g7 67 [.int .u8 (s0 : Int), .int .u8 (s1 : Int), .int .u8 (s2 : Int), .int .u8 (s3 : Int)] ∧ Blk wx g8 67 [.int .u8 (d0 : Int), .int .u8 (d1 : Int), .int .u8 (d2 : Int), .int .u8 (d3 : Int)] ∧ Below wa.heap.size wa wx ∧ wa.heap.size ≤ g7 ∧ wa.heap.size ≤ g8
def HF (wa : World) (b s d s0 s1 s2 s3 d0 d1 d2 d3 : Nat) (f : Nat → Bool) (w : World) (x12 x13 x14 x15 x16 x17 x7 x8 : Value) (g7 g8 : Nat) : Prop :=
  Below wa.heap.size wa w ∧ (f 0 = true → x12 = .pointer (some ⟨b, 1, none⟩)) ∧ (f 1 = true → x13 = .int .u32 (s : Int)) ∧ (f 2 = true → x14 = .agg #[.int .u8 (s0 : Int), .int .u8 (s1 : Int), .int .u8 (s2 : Int), .int .u8 (s3 : Int)]) ∧
  (f 3 = true → x15 = .pointer (some ⟨b, 3, none⟩)) ∧ (f 4 = true → x16 = .int .u32 (d : Int)) ∧ (f 5 = true → x17 = .agg #[.int .u8 (d0 : Int), .int .u8 (d1 : Int), .int .u8 (d2 : Int), .int .u8 (d3 : Int)]) ∧
  (f 6 = true → x7 = .pointer (some ⟨g7, 0, none⟩) ∧ wa.heap.size ≤ g7 ∧ Blk w g7 67 (if f 8 = true then [.int .u8 (s0 : Int), .int .u8 (s1 : Int), .int .u8 (s2 : Int), .int .u8 (s3 : Int)] else Zs)) ∧
  (f 7 = true → x8 = .pointer (some ⟨g8, 0, none⟩) ∧ wa.heap.size ≤ g8 ∧ Blk w g8 67 (if f 9 = true then [.int .u8 (d0 : Int), .int .u8 (d1 : Int), .int .u8 (d2 : Int), .int .u8 (d3 : Int)] else Zs)) ∧
  (f 6 = true → f 7 = true → g7 ≠ g8) ∧ (f 8 = true → f 6 = true) ∧ (f 9 = true → f 7 = true)
set_option maxRecDepth 100000 in
set_option maxHeartbeats 60000000 in
theorem hash_any (seed p sp_ dp : Int) (s d s0 s1 s2 s3 d0 d1 d2 d3 : Nat) (w : World) (hs : s < 4294967296) (hd : d < 4294967296) (SB DB : List UInt8) (hsl : SB.length = 4) (hdl : DB.length = 4) (hsv : [.int .u8 (s0 : Int), .int .u8 (s1 : Int), .int .u8 (s2 : Int), .int .u8 (s3 : Int)] = SB.map bv) (hdv : [.int .u8 (d0 : Int), .int .u8 (d1 : Int), .int .u8 (d2 : Int), .int .u8 (d3 : Int)] = DB.map bv) (hsb : adB s 0 = s0 ∧ adB s 1 = s1 ∧ adB s 2 = s2 ∧ adB s 3 = s3) (hdb : adB d 0 = d0 ∧ adB d 1 = d1 ∧ adB d 2 = d2 ∧ adB d 3 = d3) :
    Calls Tryd.prog 31 #[.int .u64 seed, flv ⟨p, s, sp_, d, dp⟩] w fun e w' => e = .returned (.int .u64 (hashI seed (thirteen p sp_ dp SB DB))) ∧ Below w.heap.size w w' := by
  have hal : Below w.heap.size w ((w.alloc (.cells #[.int .i64 p, .int .u32 (s : Int), .int .i64 sp_, .int .u32 (d : Int), .int .i64 dp] 53)).alloc (.cells #[.int .u64 (bits .xor .u64 seed 14695981039346656037)] 58)) := below_al (below_al (Below.refl _ w) _) _
  have hB0 : Blk ((w.alloc (.cells #[.int .i64 p, .int .u32 (s : Int), .int .i64 sp_, .int .u32 (d : Int), .int .i64 dp] 53)).alloc (.cells #[.int .u64 (bits .xor .u64 seed 14695981039346656037)] 58)) w.heap.size 53 (flc ⟨p, s, sp_, d, dp⟩) := (Blk.new w _ _).alloc _
  have hB1 : Blk ((w.alloc (.cells #[.int .i64 p, .int .u32 (s : Int), .int .i64 sp_, .int .u32 (d : Int), .int .i64 dp] 53)).alloc (.cells #[.int .u64 (bits .xor .u64 seed 14695981039346656037)] 58)) (w.heap.size + 1) 58 [.int .u64 (bits .xor .u64 seed 14695981039346656037)] := blk_new (by simp)
  go_enter Tryd.func31, Tryd.ntmps31
  go_upto_region 3 with (fail)
  generalize ((w.alloc (.cells #[.int .i64 p, .int .u32 (s : Int), .int .i64 sp_, .int .u32 (d : Int), .int .i64 dp] 53)).alloc (.cells #[.int .u64 (bits .xor .u64 seed 14695981039346656037)] 58)) = wa at *
  generalize hH0 : bits .xor .u64 seed 14695981039346656037 = h0 at *
  have H0 := Lib.hid hH0
  clear hH0
  obtain ⟨x0, x1, x2, x3, x4⟩ := blk5 hB0
  have hl0 := hB0.lt
  have hl1 := hB1.lt
  have HS := Lib.hid hs
  have HD := Lib.hid hd
  have HSB0 := Lib.hid hsb
  have HSB := Lib.hid hsv
  have HDB := Lib.hid hdv
  have HSL := Lib.hid hsl
  have HDL := Lib.hid hdl
  have HDB0 := Lib.hid hdb
  clear hs hd hsb hdb hsv hdv hsl hdl
  have hdrew : Below wa.heap.size wa wa.drew := Below.drew (Below.refl _ wa)
  go_cut [7, 8] (fun v7 v8 wx => Hid (Ar wa wx v7 v8 s0 s1 s2 s3 d0 d1 d2 d3))
  case first =>
    refine wp_region_inv_at (fun a0 d_ a' w' => ∃ (x12 x13 x14 x15 x16 x17 x7 x8 : Value) (g7 g8 : Nat), a' = ((((((((a0.put (some 12) x12).put (some 13) x13).put (some 14) x14).put (some 15) x15).put (some 16) x16).put (some 17) x17).put (some 7) x7).put (some 8) x8) ∧ HF wa w.heap.size s d s0 s1 s2 s3 d0 d1 d2 d3 d_ w' x12 x13 x14 x15 x16 x17 x7 x8 g7 g8) (by kernel_rfl) (by kernel_rfl) ?_ ?_ ?_
    case refine_1 =>
      exact ⟨undef, undef, undef, undef, undef, undef, undef, undef, 0, 0, (by simp only [Act.put, List.setIfInBounds_toArray, List.set_cons_zero, List.set_cons_succ]), hdrew, by simp, by simp, by simp, by simp, by simp, by simp, by simp, by simp, by simp, by simp, by simp⟩
    case refine_2 =>
      simp only [StepsInv]
      refine ⟨?_, ?_, ?_, ?_, ?_, ?_, ?_, ?_, ?_, ?_, trivial⟩
      · rintro f a' w' hf hpre ⟨x12, x13, x14, x15, x16, x17, x7, x8, g7, g8, rfl, cB, c0, c1, c2, c3, c4, c5, c6, c7, c67, c86, c97⟩ K hK
        simp only [Nat.reduceAdd] at hf hK
        have HK := Lib.hid hK
        clear hK
        simp [Region.binds, Act.put] at hpre
        go_simp
        refine HK.out _ _ (fun f' h1 h2 => ⟨(.pointer (some ⟨w.heap.size, 1, none⟩)), x13, x14, x15, x16, x17, x7, x8, g7, g8, (by simp only [Act.put, List.setIfInBounds_toArray, List.set_cons_zero, List.set_cons_succ]), ?_⟩)
        have e1 := h2 1 (by decide)
        have e2 := h2 2 (by decide)
        have e3 := h2 3 (by decide)
        have e4 := h2 4 (by decide)
        have e5 := h2 5 (by decide)
        have e6 := h2 6 (by decide)
        have e7 := h2 7 (by decide)
        have e8 := h2 8 (by decide)
        have e9 := h2 9 (by decide)
        simp only [HF, h1, e1, e2, e3, e4, e5, e6, e7, e8, e9]
        exact ⟨cB, fun _ => (by first | rfl | trivial), c1, c2, c3, c4, c5, c6, c7, c67, c86, c97⟩
      · rintro f a' w' hf hpre ⟨x12, x13, x14, x15, x16, x17, x7, x8, g7, g8, rfl, cB, c0, c1, c2, c3, c4, c5, c6, c7, c67, c86, c97⟩ K hK
        simp only [Nat.reduceAdd] at hf hK
        have HK := Lib.hid hK
        clear hK
        simp [Region.binds, Act.put] at hpre
        have y1 := (hB0.kept cB).cell 1
        simp only [flc, List.getElem?_cons_zero, List.getElem?_cons_succ] at y1
        obtain rfl := c0 hpre
        go_simp
        refine HK.out _ _ (fun f' h1 h2 => ⟨(.pointer (some ⟨w.heap.size, 1, none⟩)), (.int .u32 (s : Int)), x14, x15, x16, x17, x7, x8, g7, g8, (by simp only [Act.put, List.setIfInBounds_toArray, List.set_cons_zero, List.set_cons_succ]), ?_⟩)
        have e0 := h2 0 (by decide)
        have e2 := h2 2 (by decide)
        have e3 := h2 3 (by decide)
        have e4 := h2 4 (by decide)
        have e5 := h2 5 (by decide)
        have e6 := h2 6 (by decide)
        have e7 := h2 7 (by decide)
        have e8 := h2 8 (by decide)
        have e9 := h2 9 (by decide)
        simp only [HF, h1, e0, e2, e3, e4, e5, e6, e7, e8, e9]
        exact ⟨cB, fun _ => (by first | rfl | trivial), fun _ => (by first | rfl | trivial), c2, c3, c4, c5, c6, c7, c67, c86, c97⟩
      · rintro f a' w' hf hpre ⟨x12, x13, x14, x15, x16, x17, x7, x8, g7, g8, rfl, cB, c0, c1, c2, c3, c4, c5, c6, c7, c67, c86, c97⟩ K hK
        simp only [Nat.reduceAdd] at hf hK
        have HK := Lib.hid hK
        clear hK
        simp [Region.binds, Act.put] at hpre
        obtain rfl := c1 hpre
        go_simp
        (with_reducible refine (bytesOf_n s s0 s1 s2 s3 _ HS.out HSB0.out).mono ?_); rintro e w9 ⟨rfl, hb9⟩; dsimp only
        refine HK.out _ _ (fun f' h1 h2 => ⟨x12, (.int .u32 (s : Int)), (.agg #[.int .u8 (s0 : Int), .int .u8 (s1 : Int), .int .u8 (s2 : Int), .int .u8 (s3 : Int)]), x15, x16, x17, x7, x8, g7, g8, (by simp only [Act.put, List.setIfInBounds_toArray, List.set_cons_zero, List.set_cons_succ]), ?_⟩)
        have e0 := h2 0 (by decide)
        have e1 := h2 1 (by decide)
        have e3 := h2 3 (by decide)
        have e4 := h2 4 (by decide)
        have e5 := h2 5 (by decide)
        have e6 := h2 6 (by decide)
        have e7 := h2 7 (by decide)
        have e8 := h2 8 (by decide)
        have e9 := h2 9 (by decide)
        simp only [HF, h1, e0, e1, e3, e4, e5, e6, e7, e8, e9]
        exact ⟨below_call cB hb9, c0, fun _ => (by first | rfl | trivial), fun _ => (by first | rfl | trivial), c3, c4, c5, fun h => ⟨(c6 h).1, (c6 h).2.1, (c6 h).2.2.kept hb9⟩, fun h => ⟨(c7 h).1, (c7 h).2.1, (c7 h).2.2.kept hb9⟩, c67, c86, c97⟩
      · rintro f a' w' hf hpre ⟨x12, x13, x14, x15, x16, x17, x7, x8, g7, g8, rfl, cB, c0, c1, c2, c3, c4, c5, c6, c7, c67, c86, c97⟩ K hK
        simp only [Nat.reduceAdd] at hf hK
        have HK := Lib.hid hK
        clear hK
        simp [Region.binds, Act.put] at hpre
        go_simp
        refine HK.out _ _ (fun f' h1 h2 => ⟨x12, x13, x14, (.pointer (some ⟨w.heap.size, 3, none⟩)), x16, x17, x7, x8, g7, g8, (by simp only [Act.put, List.setIfInBounds_toArray, List.set_cons_zero, List.set_cons_succ]), ?_⟩)
        have e0 := h2 0 (by decide)
        have e1 := h2 1 (by decide)
        have e2 := h2 2 (by decide)
        have e4 := h2 4 (by decide)
        have e5 := h2 5 (by decide)
        have e6 := h2 6 (by decide)
        have e7 := h2 7 (by decide)
        have e8 := h2 8 (by decide)
        have e9 := h2 9 (by decide)
        simp only [HF, h1, e0, e1, e2, e4, e5, e6, e7, e8, e9]
        exact ⟨cB, c0, c1, c2, fun _ => (by first | rfl | trivial), c4, c5, c6, c7, c67, c86, c97⟩
      · rintro f a' w' hf hpre ⟨x12, x13, x14, x15, x16, x17, x7, x8, g7, g8, rfl, cB, c0, c1, c2, c3, c4, c5, c6, c7, c67, c86, c97⟩ K hK
        simp only [Nat.reduceAdd] at hf hK
        have HK := Lib.hid hK
        clear hK
        simp [Region.binds, Act.put] at hpre
        have y3 := (hB0.kept cB).cell 3
        simp only [flc, List.getElem?_cons_zero, List.getElem?_cons_succ] at y3
        obtain rfl := c3 hpre
        go_simp
        refine HK.out _ _ (fun f' h1 h2 => ⟨x12, x13, x14, (.pointer (some ⟨w.heap.size, 3, none⟩)), (.int .u32 (d : Int)), x17, x7, x8, g7, g8, (by simp only [Act.put, List.setIfInBounds_toArray, List.set_cons_zero, List.set_cons_succ]), ?_⟩)
        have e0 := h2 0 (by decide)
        have e1 := h2 1 (by decide)
        have e2 := h2 2 (by decide)
        have e3 := h2 3 (by decide)
        have e5 := h2 5 (by decide)
        have e6 := h2 6 (by decide)
        have e7 := h2 7 (by decide)
        have e8 := h2 8 (by decide)
        have e9 := h2 9 (by decide)
        simp only [HF, h1, e0, e1, e2, e3, e5, e6, e7, e8, e9]
        exact ⟨cB, c0, c1, c2, fun _ => (by first | rfl | trivial), fun _ => (by first | rfl | trivial), c5, c6, c7, c67, c86, c97⟩
      · rintro f a' w' hf hpre ⟨x12, x13, x14, x15, x16, x17, x7, x8, g7, g8, rfl, cB, c0, c1, c2, c3, c4, c5, c6, c7, c67, c86, c97⟩ K hK
        simp only [Nat.reduceAdd] at hf hK
        have HK := Lib.hid hK
        clear hK
        simp [Region.binds, Act.put] at hpre
        obtain rfl := c4 hpre.1
        clear hpre
        go_simp
        (with_reducible refine (bytesOf_n d d0 d1 d2 d3 _ HD.out HDB0.out).mono ?_); rintro e w9 ⟨rfl, hb9⟩; dsimp only
        refine HK.out _ _ (fun f' h1 h2 => ⟨x12, x13, x14, x15, (.int .u32 (d : Int)), (.agg #[.int .u8 (d0 : Int), .int .u8 (d1 : Int), .int .u8 (d2 : Int), .int .u8 (d3 : Int)]), x7, x8, g7, g8, (by simp only [Act.put, List.setIfInBounds_toArray, List.set_cons_zero, List.set_cons_succ]), ?_⟩)
        have e0 := h2 0 (by decide)
        have e1 := h2 1 (by decide)
        have e2 := h2 2 (by decide)
        have e3 := h2 3 (by decide)
        have e4 := h2 4 (by decide)
        have e6 := h2 6 (by decide)
        have e7 := h2 7 (by decide)
        have e8 := h2 8 (by decide)
        have e9 := h2 9 (by decide)
        simp only [HF, h1, e0, e1, e2, e3, e4, e6, e7, e8, e9]
        exact ⟨below_call cB hb9, c0, c1, c2, c3, fun _ => (by first | rfl | trivial), fun _ => (by first | rfl | trivial), fun h => ⟨(c6 h).1, (c6 h).2.1, (c6 h).2.2.kept hb9⟩, fun h => ⟨(c7 h).1, (c7 h).2.1, (c7 h).2.2.kept hb9⟩, c67, c86, c97⟩
      · rintro f a' w' hf hpre ⟨x12, x13, x14, x15, x16, x17, x7, x8, g7, g8, rfl, cB, c0, c1, c2, c3, c4, c5, c6, c7, c67, c86, c97⟩ K hK
        simp only [Nat.reduceAdd] at hf hK
        have HK := Lib.hid hK
        clear hK
        simp [Region.binds, Act.put] at hpre
        have h8 : ¬ f 8 = true := fun h => by simp [c86 h] at hf
        go_simp
        refine HK.out _ _ (fun f' h1 h2 => ⟨x12, x13, x14, x15, x16, x17, (.pointer (some ⟨w'.heap.size, 0, none⟩)), x8, w'.heap.size, g8, (by simp only [Act.put, List.setIfInBounds_toArray, List.set_cons_zero, List.set_cons_succ]), ?_⟩)
        have e0 := h2 0 (by decide)
        have e1 := h2 1 (by decide)
        have e2 := h2 2 (by decide)
        have e3 := h2 3 (by decide)
        have e4 := h2 4 (by decide)
        have e5 := h2 5 (by decide)
        have e7 := h2 7 (by decide)
        have e8 := h2 8 (by decide)
        have e9 := h2 9 (by decide)
        simp only [HF, h1, e0, e1, e2, e3, e4, e5, e7, e8, e9]
        exact ⟨below_al cB _, c0, c1, c2, c3, c4, c5, fun _ => ⟨(by first | rfl | trivial), cB.size, by rw [if_neg h8]; exact Blk.new w' _ _⟩, fun h => ⟨(c7 h).1, (c7 h).2.1, (c7 h).2.2.alloc _⟩, fun _ h => Nat.ne_of_gt (c7 h).2.2.lt, fun _ => (by first | rfl | trivial), c97⟩
      · rintro f a' w' hf hpre ⟨x12, x13, x14, x15, x16, x17, x7, x8, g7, g8, rfl, cB, c0, c1, c2, c3, c4, c5, c6, c7, c67, c86, c97⟩ K hK
        simp only [Nat.reduceAdd] at hf hK
        have HK := Lib.hid hK
        clear hK
        simp [Region.binds, Act.put] at hpre
        have h9 : ¬ f 9 = true := fun h => by simp [c97 h] at hf
        go_simp
        refine HK.out _ _ (fun f' h1 h2 => ⟨x12, x13, x14, x15, x16, x17, x7, (.pointer (some ⟨w'.heap.size, 0, none⟩)), g7, w'.heap.size, (by simp only [Act.put, List.setIfInBounds_toArray, List.set_cons_zero, List.set_cons_succ]), ?_⟩)
        have e0 := h2 0 (by decide)
        have e1 := h2 1 (by decide)
        have e2 := h2 2 (by decide)
        have e3 := h2 3 (by decide)
        have e4 := h2 4 (by decide)
        have e5 := h2 5 (by decide)
        have e6 := h2 6 (by decide)
        have e8 := h2 8 (by decide)
        have e9 := h2 9 (by decide)
        simp only [HF, h1, e0, e1, e2, e3, e4, e5, e6, e8, e9]
        exact ⟨below_al cB _, c0, c1, c2, c3, c4, c5, fun h => ⟨(c6 h).1, (c6 h).2.1, (c6 h).2.2.alloc _⟩, fun _ => ⟨(by first | rfl | trivial), cB.size, by rw [if_neg h9]; exact Blk.new w' _ _⟩, fun h _ => Nat.ne_of_lt (c6 h).2.2.lt, c86, fun _ => (by first | rfl | trivial)⟩
      · rintro f a' w' hf hpre ⟨x12, x13, x14, x15, x16, x17, x7, x8, g7, g8, rfl, cB, c0, c1, c2, c3, c4, c5, c6, c7, c67, c86, c97⟩ K hK
        simp only [Nat.reduceAdd] at hf hK
        have HK := Lib.hid hK
        clear hK
        simp [Region.binds, Act.put] at hpre
        have hp6 : f 6 = true := hpre.1
        have hp2 : f 2 = true := hpre.2.1
        have e6 := (c6 hp6).1
        have l6 := (c6 hp6).2.1
        have B6 := (c6 hp6).2.2
        subst e6
        have hn : ¬ f 8 = true := (by simp [hf])
        rw [if_neg hn] at B6
        have kk := cf4 B6
        have k70 := kk.1.1
        have k71 := kk.1.2.1
        have k72 := kk.1.2.2.1
        have k73 := kk.1.2.2.2
        have k74 := kk.2.1.1
        have k75 := kk.2.1.2.1
        have k76 := kk.2.1.2.2.1
        have k77 := kk.2.1.2.2.2
        clear kk
        have ec := c2 hp2
        subst ec
        have HP := Lib.hid hp6
        clear hpre hp6 hp2
        go_simp
        refine HK.out _ _ (fun f' h1 h2 => ⟨x12, x13, (.agg #[.int .u8 (s0 : Int), .int .u8 (s1 : Int), .int .u8 (s2 : Int), .int .u8 (s3 : Int)]), x15, x16, x17, (.pointer (some ⟨g7, 0, none⟩)), x8, g7, g8, (by simp only [Act.put, List.setIfInBounds_toArray, List.set_cons_zero, List.set_cons_succ]), ?_⟩)
        have e0 := h2 0 (by decide)
        have e1 := h2 1 (by decide)
        have e2 := h2 2 (by decide)
        have e3 := h2 3 (by decide)
        have e4 := h2 4 (by decide)
        have e5 := h2 5 (by decide)
        have e6 := h2 6 (by decide)
        have e7 := h2 7 (by decide)
        have e9 := h2 9 (by decide)
        simp only [HF, h1, e0, e1, e2, e3, e4, e5, e6, e7, e9]
        exact ⟨set4_bel cB l6 _ _ _ _, c0, c1, fun _ => (by first | rfl | trivial), c3, c4, c5, fun _ => ⟨(by first | rfl | trivial), l6, by rw [if_pos trivial]; exact set4_blk B6 _ _ _ _⟩, fun h => ⟨(c7 h).1, (c7 h).2.1, set4_far (c7 h).2.2 (Ne.symm (c67 HP.out h)) _ _ _ _⟩, c67, fun _ => HP.out, c97⟩
      · rintro f a' w' hf hpre ⟨x12, x13, x14, x15, x16, x17, x7, x8, g7, g8, rfl, cB, c0, c1, c2, c3, c4, c5, c6, c7, c67, c86, c97⟩ K hK
        simp only [Nat.reduceAdd] at hf hK
        have HK := Lib.hid hK
        clear hK
        simp [Region.binds, Act.put] at hpre
        have hp7 : f 7 = true := hpre.1
        have hp5 : f 5 = true := hpre.2.1
        have e7 := (c7 hp7).1
        have l7 := (c7 hp7).2.1
        have B7 := (c7 hp7).2.2
        subst e7
        have hn : ¬ f 9 = true := (by simp [hf])
        rw [if_neg hn] at B7
        have kk := cf4 B7
        have k70 := kk.1.1
        have k71 := kk.1.2.1
        have k72 := kk.1.2.2.1
        have k73 := kk.1.2.2.2
        have k74 := kk.2.1.1
        have k75 := kk.2.1.2.1
        have k76 := kk.2.1.2.2.1
        have k77 := kk.2.1.2.2.2
        clear kk
        have ec := c5 hp5
        subst ec
        have HP := Lib.hid hp7
        clear hpre hp7 hp5
        go_simp
        refine HK.out _ _ (fun f' h1 h2 => ⟨x12, x13, x14, x15, x16, (.agg #[.int .u8 (d0 : Int), .int .u8 (d1 : Int), .int .u8 (d2 : Int), .int .u8 (d3 : Int)]), x7, (.pointer (some ⟨g8, 0, none⟩)), g7, g8, (by simp only [Act.put, List.setIfInBounds_toArray, List.set_cons_zero, List.set_cons_succ]), ?_⟩)
        have e0 := h2 0 (by decide)
        have e1 := h2 1 (by decide)
        have e2 := h2 2 (by decide)
        have e3 := h2 3 (by decide)
        have e4 := h2 4 (by decide)
        have e5 := h2 5 (by decide)
        have e6 := h2 6 (by decide)
        have e7 := h2 7 (by decide)
        have e8 := h2 8 (by decide)
        simp only [HF, h1, e0, e1, e2, e3, e4, e5, e6, e7, e8]
        exact ⟨set4_bel cB l7 _ _ _ _, c0, c1, c2, c3, c4, fun _ => (by first | rfl | trivial), fun h => ⟨(c6 h).1, (c6 h).2.1, set4_far (c6 h).2.2 (c67 h HP.out) _ _ _ _⟩, fun _ => ⟨(by first | rfl | trivial), l7, by rw [if_pos trivial]; exact set4_blk B7 _ _ _ _⟩, c67, c86, fun _ => HP.out⟩
    case refine_3 =>
      rintro f a' w' hall ⟨x12, x13, x14, x15, x16, x17, x7, x8, g7, g8, rfl, cB, c0, c1, c2, c3, c4, c5, c6, c7, c67, c86, c97⟩
      have hall : ∀ k, k < 10 → f k = true := hall
      obtain ⟨rfl, l7, B7⟩ := c6 (hall 6 (by decide))
      obtain ⟨rfl, l8, B8⟩ := c7 (hall 7 (by decide))
      rw [if_pos (hall 8 (by decide))] at B7
      rw [if_pos (hall 9 (by decide))] at B8
      clear c0 c1 c2 c3 c4 c5 c6 c7 c67 c86 c97 hall
      simp only [Act.put]
      go_wp2_with fail
      go_meet
      exact ⟨g7, g8, rfl, rfl, B7, B8, cB, l7, l8⟩
  case rest =>
    obtain ⟨g7, g8, rfl, rfl, B7, B8, cB, m7, m8⟩ := hcut.out
    have B1 := hB1.kept cB
    have BF := hB0.kept cB
    have hbw := below_call hal cB
    clear hcut hB1 hB0 hal hdrew x0 x1 x2 x3 x4
    obtain ⟨x0, x1, x2, x3, x4⟩ := blk5 BF
    have l7 := B7.lt
    have l8 := B8.lt
    have lw := cB.size
    go_wp2_with fail
    (with_reducible refine (add_any [u8i p] (some ⟨wc.heap.size, 0, none⟩) 1 1 (w.heap.size + 1) h0 _ rfl (rb_blk (Blk.new wc _ _) (by simp only [List.map_cons, List.map_nil, bv_u8m])) (by decide) (B1.alloc _) (fun ad h => by injection h with h; subst h; exact Nat.ne_of_gt (by simp only; omega))).mono ?_)
    rintro e w1 ⟨⟨v1, rfl⟩, C1, hg1⟩
    have D7 := grown_blk hg1 (B7.alloc _) (by omega)
    have D8 := grown_blk hg1 (B8.alloc _) (by omega)
    have DF := grown_blk hg1 (BF.alloc _) (by omega)
    have hbw1 := grown_bel (below_al hbw _) hg1 (by omega) (Nat.le_refl _)
    clear x0 x1 x2 x3 x4
    go_wp2_with fail
    (with_reducible refine (add_any SB (some ⟨g7, 0, none⟩) 4 4 (w.heap.size + 1) _ _ HSL.out (rb_blk D7 HSB.out) (by decide) C1 (fun ad h => by injection h with h; subst h; exact Nat.ne_of_gt (by simp only; omega))).mono ?_)
    rintro e w2 ⟨⟨v2, rfl⟩, C2, hg2⟩
    have E8 := grown_blk hg2 D8 (by omega)
    have EF := grown_blk hg2 DF (by omega)
    have hbw2 := grown_bel hbw1 hg2 (by omega) (Nat.le_refl _)
    go_wp2_with fail
    (with_reducible refine (add_any DB (some ⟨g8, 0, none⟩) 4 4 (w.heap.size + 1) _ _ HDL.out (rb_blk E8 HDB.out) (by decide) C2 (fun ad h => by injection h with h; subst h; exact Nat.ne_of_gt (by simp only; omega))).mono ?_)
    rintro e w3 ⟨⟨v3, rfl⟩, C3, hg3⟩
    have FF := grown_blk hg3 EF (by omega)
    have hbw3 := grown_bel hbw2 hg3 (by omega) (Nat.le_refl _)
    obtain ⟨x0, x1, x2, x3, x4⟩ := blk5 FF
    go_wp2_with fail
    (with_reducible refine (add_any [u8i (sp_ / 256), u8i sp_, u8i (dp / 256), u8i dp] (some ⟨w3.heap.size, 0, none⟩) 4 4 (w.heap.size + 1) _ _ rfl (rb_blk (Blk.new w3 _ _) (by simp only [List.map_cons, List.map_nil, bv_u8m])) (by decide) (C3.alloc _) (fun ad h => by injection h with h; subst h; exact Nat.ne_of_gt (by have := C3.lt; simp only; omega))).mono ?_)
    rintro e w4 ⟨⟨v4, rfl⟩, C4, hg4⟩
    have hbw4 := grown_bel (below_al hbw3 _) hg4 (by omega) (Nat.le_refl _)
    have y0 := C4.cell 0
    have y1 := C4.frozen 0
    simp only [List.getElem?_cons_zero] at y0
    have HM := Lib.hid (mixL_four h0 [u8i p] SB DB [u8i (sp_ / 256), u8i sp_, u8i (dp / 256), u8i dp])
    clear x0 x1 x2 x3 x4 B1 C1 C2 C3 C4 B7 B8 BF D7 D8 DF E8 EF FF
    generalize mixL (mixL (mixL (mixL h0 [u8i p]) SB) DB) [u8i (sp_ / 256), u8i sp_, u8i (dp / 256), u8i dp] = m at *
    go_wp2_with fail
    go_ret
    refine ⟨?_, (hbw4.setCell (Nat.le_succ _) _).setCell (Nat.le_succ _) _⟩
    rw [show hashI seed (thirteen p sp_ dp SB DB) = fin m from by unfold hashI thirteen; rw [H0.out, ← HM.out]]
    rfl
end Go.Proofs.YtfhdkcdhfdapbaaDoor
