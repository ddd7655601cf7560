/- The walks of the document's Bytes and Hash. -/
import Derived.Test.YtfhdkcdhfdapbaaDoorAdDec
import Derived.Test.YtfhdkcdhfdapbaaDoorAdHash1
namespace Go.Proofs.YtfhdkcdhfdapbaaDoor
set_option linter.unusedVariables false
set_option linter.unusedSimpArgs false
open Go.RowKit Go.Sort

theorem rbyte_k (a k : Nat) (w : World) (h : a < 4294967296) (hk : k < 4) (z : Nat) (hz : adB a k = z) : Calls Tryd.prog 40 #[.int .u32 (a : Int), .int .i64 (k : Int)] w fun e w' => e = .returned (.int .i64 (z : Int)) ∧ w' = w := by
  subst hz
  match k, hk with
  | 0, _ => exact rbyte_0 a w h
  | 1, _ => exact rbyte_1 a w h
  | 2, _ => exact rbyte_2 a w h
  | 3, _ => exact rbyte_3 a w h
theorem info_u8 : (Tryd.prog.info? 5).map (fun i => (i.zero, i.size, i.bytes)) = some (some (.int .u8 0), 1, 1) := by kernel_rfl
theorem own_lit1 (W : World) (base : Nat) (e : TypeId) (g : Nat) (a : Value) (hg : g = W.heap.size) (hb : base ≤ W.heap.size) : (W.alloc (.cells #[a] e)).ownsRow base e 1 (.slice (some ⟨g, 0, none⟩) 1 1) 1 [a] := by
  subst hg
  exact ⟨rfl, .inr ⟨W.heap.size, 1, #[a], rfl, hb, heap_alloc_new W _, Nat.le_refl _, (by unfold maxLen; omega), rfl, rfl⟩⟩
theorem below_al' {a w : World} {B : Nat} (h : Below B a w) (hB : B ≤ a.heap.size) (o : Obj) : Below B a (w.alloc o) := h.alloc (Nat.le_trans hB h.size) o
/-- An address's first k bytes. -/
def adL (a k : Nat) : List UInt8 := (List.range k).map fun i => u8i (adB a i : Int)
theorem adL_len (a k : Nat) : (adL a k).length = k := by simp [adL]
theorem adL_succ (a k : Nat) : adL a (k + 1) = adL a k ++ [u8i (adB a k : Int)] := by simp [adL, List.range_succ]
set_option maxRecDepth 100000 in
set_option maxHeartbeats 1600000 in
theorem bytes_any (p sp_ dp : Int) (s d : Nat) (w : World) (hs : s < 4294967296) (hd : d < 4294967296) :
    Calls Tryd.prog 48 #[flv ⟨p, s, sp_, d, dp⟩] w fun e w' => ∃ v, e = .returned v ∧ w'.ownsRow w.heap.size 5 1 v 13 ((thirteen p sp_ dp (adL s 4) (adL d 4)).map bv) ∧ Below w.heap.size w w' := by
  have HS := Lib.hid hs
  have HD := Lib.hid hd
  clear hs hd
  obtain ⟨i0, hi, hz0, hz1, hz2⟩ := info_parts info_u8
  have hal : Below w.heap.size w ((w.alloc (.cells #[.int .i64 p, .int .u32 (s : Int), .int .i64 sp_, .int .u32 (d : Int), .int .i64 dp] 53)).alloc (.cells #[.int .u8 (p % 256)] 5)) := below_al (below_al (Below.refl _ w) _) _
  have hB0 : Blk ((w.alloc (.cells #[.int .i64 p, .int .u32 (s : Int), .int .i64 sp_, .int .u32 (d : Int), .int .i64 dp] 53)).alloc (.cells #[.int .u8 (p % 256)] 5)) w.heap.size 53 (flc ⟨p, s, sp_, d, dp⟩) := (Blk.new w _ _).alloc _
  have hO := own_lit1 (w.alloc (.cells #[.int .i64 p, .int .u32 (s : Int), .int .i64 sp_, .int .u32 (d : Int), .int .i64 dp] 53)) (w.heap.size + 1) 5 (w.heap.size + 1) (.int .u8 (p % 256)) (by simp) (by simp)
  have hsa : w.heap.size + 1 ≤ ((w.alloc (.cells #[.int .i64 p, .int .u32 (s : Int), .int .i64 sp_, .int .u32 (d : Int), .int .i64 dp] 53)).alloc (.cells #[.int .u8 (p % 256)] 5)).heap.size := by simp
  go_enter Tryd.func48, Tryd.ntmps48
  go_wp2_with fail
  generalize ((w.alloc (.cells #[.int .i64 p, .int .u32 (s : Int), .int .i64 sp_, .int .u32 (d : Int), .int .i64 dp] 53)).alloc (.cells #[.int .u8 (p % 256)] 5)) = wa at *
  go_loopw [3, 4] (fun v i wr => ∃ k : Nat, k ≤ 4 ∧ i = .int .i64 (k : Int) ∧ Hid (wr.ownsRow (w.heap.size + 1) 5 1 v (1 + k) (([u8i p] ++ adL s k).map bv)) ∧ Hid (Below (w.heap.size + 1) wa wr)) (fun _ i _ => 4 - (intOf i).toNat)
  case atStart => exact ⟨0, Nat.zero_le _, rfl, by have h := hO; rw [← bv_u8m] at h; exact h, Below.refl _ _⟩
  case round =>
    obtain ⟨k, hk, rfl, HO, HB⟩ := hrel
    have x1 := (blk5 (hB0.below HB.out (Nat.lt_succ_self _))).2.1
    have hsz := HB.out.size
    by_cases hlt : k < 4
    · obtain ⟨z, hz⟩ : ∃ z, adB s k = z := ⟨_, rfl⟩
      have HZ := Lib.hid hz
      have hz8 : z < 256 := by rw [← hz]; exact adB_lt s k HS.out
      have HE : Hid (bv (u8i (z : Int)) = .int .u8 (z : Int)) := bv_u8n z hz8
      clear hz
      go_wp2_with fail
      (with_reducible refine (rbyte_k s k wr HS.out hlt z HZ.out).mono ?_)
      rintro e w5 ⟨rfl, rfl⟩
      go_wp2_with (at_builtin; refine wl_app _ rfl (.tmp 14) (.tmp 20) 78 rfl (w.heap.size + 1) 5 i0 (.int .u8 0) 1 1 Tryd.underlying78 hi hz0 hz1 hz2 rfl (by omega) _ (1 + k) _ rfl (HO.out.alloc _) (some ⟨w5.heap.size, 0, none⟩) 1 1 [.int .u8 (z : Int)] rfl rfl (rc_new w5 _ _) (by simp [Value.oneCell']) (by unfold maxLen; omega) (by omega) (by simp; omega) ?_)
      intro v7 w7 hown7 hg7 hat7
      have hb7 : Hid (Below (w.heap.size + 1) wa w7) := ((below_al' HB.out hsa _).grown hg7 (by simp; omega) (fun q hq => (HO.out.lt q hq).1))
      have G : Hid (w7.ownsRow (w.heap.size + 1) 5 1 v7 (1 + (k + 1)) (([u8i p] ++ adL s (k + 1)).map bv)) := by
        rw [adL_succ, HZ.out, ← List.append_assoc, List.map_append, List.map_cons, List.map_nil, HE.out]
        exact hown7
      clear hown7 hg7 hat7
      go_wp2_with fail
      go_roundw
      case rel => exact ⟨k + 1, by omega, by go_num, G, hb7⟩
      case measure => simp [intOf]; omega
    · obtain rfl : k = 4 := by omega
      go_wp2_with fail
      go_loopw [3, 5] (fun v i wr => ∃ k : Nat, k ≤ 4 ∧ i = .int .i64 (k : Int) ∧ Hid (wr.ownsRow (w.heap.size + 1) 5 1 v (5 + k) (([u8i p] ++ adL s 4 ++ adL d k).map bv)) ∧ Hid (Below (w.heap.size + 1) wa wr)) (fun _ i _ => 4 - (intOf i).toNat)
      case atStart => exact ⟨0, Nat.zero_le _, rfl, by have h := HO.out; show World.ownsRow _ _ _ _ _ _ _; simpa [adL] using h, HB⟩
      case round =>
        clear HO HB x1 hsz
        obtain ⟨k, hk, rfl, HO, HB⟩ := hrel
        have x1 := (blk5 (hB0.below HB.out (Nat.lt_succ_self _)))
        have x2 := x1.2.2.1
        have x3 := x1.2.2.2.1
        have x4 := x1.2.2.2.2
        clear x1
        have hsz := HB.out.size
        by_cases hlt : k < 4
        · obtain ⟨z, hz⟩ : ∃ z, adB d k = z := ⟨_, rfl⟩
          have HZ := Lib.hid hz
          have hz8 : z < 256 := by rw [← hz]; exact adB_lt d k HD.out
          have HE : Hid (bv (u8i (z : Int)) = .int .u8 (z : Int)) := bv_u8n z hz8
          clear hz
          go_wp2_with fail
          (with_reducible refine (rbyte_k d k _ HD.out hlt z HZ.out).mono ?_)
          rintro e w5 ⟨rfl, rfl⟩
          go_wp2_with (at_builtin; refine wl_app _ rfl (.tmp 26) (.tmp 32) 78 rfl (w.heap.size + 1) 5 i0 (.int .u8 0) 1 1 Tryd.underlying78 hi hz0 hz1 hz2 rfl (by omega) _ (5 + k) _ rfl (HO.out.alloc _) (some ⟨w5.heap.size, 0, none⟩) 1 1 [.int .u8 (z : Int)] rfl rfl (rc_new w5 _ _) (by simp [Value.oneCell']) (by unfold maxLen; omega) (by omega) (by simp; omega) ?_)
          intro v7 w7 hown7 hg7 hat7
          have hb7 : Hid (Below (w.heap.size + 1) wa w7) := ((below_al' HB.out hsa _).grown hg7 (by simp; omega) (fun q hq => (HO.out.lt q hq).1))
          have G : Hid (w7.ownsRow (w.heap.size + 1) 5 1 v7 (5 + (k + 1)) (([u8i p] ++ adL s 4 ++ adL d (k + 1)).map bv)) := by
            rw [adL_succ d k, HZ.out, ← List.append_assoc, List.map_append, List.map_cons (f := bv), List.map_nil, HE.out]
            exact hown7
          clear hown7 hg7 hat7
          go_wp2_with fail
          go_roundw
          case rel => exact ⟨k + 1, by omega, by go_num, G, hb7⟩
          case measure => simp [intOf]; omega
        · obtain rfl : k = 4 := by omega
          go_wp2_with (at_builtin; refine wl_app _ rfl (.tmp 34) (.tmp 49) 78 rfl (w.heap.size + 1) 5 i0 (.int .u8 0) 1 1 Tryd.underlying78 hi hz0 hz1 hz2 rfl (by omega) _ 9 _ rfl (HO.out.alloc _) (some ⟨wr.heap.size, 0, none⟩) 4 4 [.int .u8 (sp_ / 256 % 256), .int .u8 (sp_ % 256), .int .u8 (dp / 256 % 256), .int .u8 (dp % 256)] rfl rfl (rc_new _ _ _) (by simp [Value.oneCell']) (by unfold maxLen; omega) (by omega) (by simp; omega) ?_)
          intro v9 w9 hown9 hg9 hat9
          have hb9 : Below (w.heap.size + 1) wa w9 := ((below_al' HB.out hsa _).grown hg9 (by simp; omega) (fun q hq => (HO.out.lt q hq).1))
          have G : Hid (w9.ownsRow w.heap.size 5 1 v9 13 ((thirteen p sp_ dp (adL s 4) (adL d 4)).map bv)) := by
            have h := own_weaken hown9 (Nat.le_succ _)
            show World.ownsRow _ _ _ _ _ _ _
            unfold thirteen
            simpa [bv_u8m] using h
          have hb10 : Hid (Below w.heap.size w w9) := hal.trans (hb9.mono (Nat.le_succ _))
          clear hown9 hg9 hat9 hb9
          go_wp2_with fail
          go_ret
          exact ⟨_, rfl, G.out, hb10.out⟩
theorem thirteen_len (p sp_ dp : Int) (l m : List UInt8) (hl : l.length = 4) (hm : m.length = 4) : (thirteen p sp_ dp l m).length = 13 := by simp [thirteen, hl, hm]
set_option maxRecDepth 100000 in
set_option maxHeartbeats 1600000 in
theorem rhash_any (seed p sp_ dp : Int) (s d : Nat) (w : World) (hs : s < 4294967296) (hd : d < 4294967296) :
    Calls Tryd.prog 32 #[.int .u64 seed, flv ⟨p, s, sp_, d, dp⟩] w fun e w' => e = .returned (.int .u64 (hashI seed (thirteen p sp_ dp (adL s 4) (adL d 4)))) ∧ Below w.heap.size w w' := by
  have HLN := Lib.hid (thirteen_len p sp_ dp (adL s 4) (adL d 4) (adL_len _ _) (adL_len _ _))
  have hal : Below w.heap.size w (w.alloc (.cells #[.int .i64 p, .int .u32 (s : Int), .int .i64 sp_, .int .u32 (d : Int), .int .i64 dp] 53)) := below_al (Below.refl _ w) _
  have hB0 : Blk (w.alloc (.cells #[.int .i64 p, .int .u32 (s : Int), .int .i64 sp_, .int .u32 (d : Int), .int .i64 dp] 53)) w.heap.size 53 (flc ⟨p, s, sp_, d, dp⟩) := Blk.new w _ _
  have HS := Lib.hid hs
  have HD := Lib.hid hd
  clear hs hd
  obtain ⟨x0, x1, x2, x3, x4⟩ := blk5 hB0
  go_enter Tryd.func32, Tryd.ntmps32
  go_wp2_with fail
  generalize (w.alloc (.cells #[.int .i64 p, .int .u32 (s : Int), .int .i64 sp_, .int .u32 (d : Int), .int .i64 dp] 53)) = wa at *
  generalize hH0 : bits .xor .u64 seed 14695981039346656037 = h0 at *
  have H0 := Lib.hid hH0
  clear hH0
  (with_reducible refine (bytes_any p sp_ dp s d wa HS.out HD.out).mono ?_)
  rintro e w1 ⟨v, rfl, hO, hb1⟩
  generalize hX : thirteen p sp_ dp (adL s 4) (adL d 4) = xs at *
  have HX := Lib.hid hX
  clear hX
  obtain ⟨A, c, rfl, hc, hrc, -⟩ := own_form hO
  have hbw := below_call hal hb1
  have HHX : Hid (hashI seed xs = fin (mixL h0 xs)) := by show _ = _; unfold hashI; rw [H0.out]
  clear hO x0 x1 x2 x3 x4 hB0 hal hb1
  go_wp2_with fail
  go_loopw [5, 7] (fun v i wr => ∃ (k : Nat) (x : Int), k ≤ 13 ∧ i = .int .i64 (k : Int) ∧ v = .int .u64 x ∧ Hid (x = mixL h0 (xs.take k)) ∧ w1 = wr) (fun _ i _ => 13 - (intOf i).toNat)
  case atStart => exact ⟨0, h0, Nat.zero_le _, rfl, rfl, rfl, (by first | rfl | trivial)⟩
  case round =>
    obtain ⟨k, x, hk, rfl, rfl, HF, rfl⟩ := hrel
    by_cases hlt : k < 13
    · have hkl : k < xs.length := by rw [HLN.out]; exact hlt
      obtain ⟨ad, rfl, hc1⟩ := hrc k (.int .u8 (xs[k].toNat : Int)) (by rw [List.getElem?_map, List.getElem?_eq_getElem hkl]; rfl)
      have hlt8 := xs[k].toNat_lt
      have HY : Hid (IntKind.u64.wrap (bits .xor .u64 x (xs[k].toNat : Int) * 1099511628211) = mixL h0 (xs.take (k + 1))) := by
        show _ = _
        rw [List.take_succ_eq_append_getElem hkl, mixL_append, ← HF.out]
        rfl
      generalize xs[k].toNat = b at *
      go_wp2_with fail
      go_roundw
      case rel => exact ⟨k + 1, _, by omega, by go_num, rfl, HY.out, (by first | rfl | trivial)⟩
      case measure => simp [intOf]; omega
    · obtain rfl : k = 13 := by omega
      have HZ : Hid (hashI seed xs = fin x) := by
        show _ = _
        rw [HHX.out, HF.out, List.take_of_length_le (by rw [HLN.out]; exact Nat.le_refl _)]
      go_wp2_with fail
      go_ret
      exact ⟨by rw [HX.out, HZ.out]; rfl, hbw⟩
end Go.Proofs.YtfhdkcdhfdapbaaDoor
