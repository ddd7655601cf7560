/- The walks of Make, Over; the fixed fact. -/
import Derived.Test.YtgmimindhhpkgaaSame
import Derived.Test.YtgmimindhhpkgaaRefParse
namespace Go.Proofs.Ytgmimindhhpkgaa
set_option linter.unusedVariables false
set_option linter.unusedSimpArgs false
open Go.RowKit

theorem one_iv (xs : List Int) : ∀ u ∈ xs.map iv, u.oneCell' = true := by
  intro u hu
  obtain ⟨_, _, rfl⟩ := List.mem_map.1 hu
  rfl
set_option maxHeartbeats 800000 in
theorem cloneI_any (xs : List Int) (A : Option Addr) (c : Nat) (w : World) (hA : RC w A (xs.map iv)) (hc : xs.length ≤ c) (hn : xs.length ≤ 4000000) :
    Calls Try.prog 40 #[.slice A xs.length c] w fun e w' => ∃ v, e = .returned v ∧ w'.ownsRow w.heap.size 3 1 v xs.length (xs.map iv) ∧ Below w.heap.size w w' := by
  obtain ⟨i0, hi, hz0, hz1, hz2⟩ := info_parts info_int
  cases A with
  | none =>
    have hx : xs = [] := by
      cases xs with
      | nil => rfl
      | cons x r => obtain ⟨_, h, _⟩ := hA 0 _ rfl; cases h
    subst hx
    have hnl := fun (W : World) (a : Option Addr) (n c : Nat) => Lib.run_eql_slice_nil (P := Try.prog) W 22 _ a n c 0 0 Try.underlying22
    go_enter Try.func40, Try.ntmps40
    go_wp2
    go_ret
    exact ⟨_, rfl, World.ownsRow_nil _ _ _ _, Below.refl _ _⟩
  | some ad =>
    have hnl := fun (W : World) (a : Option Addr) (n c : Nat) => Lib.run_eql_slice_nil (P := Try.prog) W 22 _ a n c 0 0 Try.underlying22
    go_enter Try.func40, Try.ntmps40
    go_wp2_with (at_builtin; refine wl_app _ rfl (.tmp 5) (.tmp 6) 22 rfl w.heap.size 3 i0 (.int .i64 0) 1 8 Try.underlying22 hi hz0 hz1 hz2 rfl (by omega) _ _ _ rfl (own_empty w w.heap.size 3 w.heap.size rfl (Nat.le_refl _)) (some ad) xs.length c (xs.map iv) rfl (by simp) (RC.below hA ((Below.refl _ _).alloc (Nat.le_refl _) _)) (one_iv xs) (by unfold maxLen; omega) (by omega) (by simp) ?_)
    intro v2 w2 hown2 hg2 hat2
    have hb2 : Below w.heap.size w w2 := ((Below.refl _ w).alloc (Nat.le_refl _) _).grown hg2 (by simp) (fun g hg => by simp [Value.ownBlock] at hg; omega)
    try simp only [Nat.zero_add, List.nil_append] at hown2
    clear hg2 hat2
    go_wp2
    go_ret
    exact ⟨_, rfl, hown2, hb2⟩

set_option maxHeartbeats 800000 in
theorem make_any (k : Int) (xs : List Int) (A : Option Addr) (c : Nat) (w : World) (hA : RC w A (xs.map iv)) (hc : xs.length ≤ c) (hn : xs.length ≤ 4000000) :
    Calls Try.prog 25 #[.int .i64 k, .slice A xs.length c] w fun e w' => ∃ v, e = .returned (.agg #[.int .i64 k, v, .slice none 0 0]) ∧ w'.ownsRow w.heap.size 3 1 v xs.length (xs.map iv) ∧ Below w.heap.size w w' := by
  have hb1 : Below w.heap.size w (w.alloc (.cells #[.int .i64 0, .slice none 0 0, .slice none 0 0] 25)) := (Below.refl w.heap.size w).alloc (Nat.le_refl _) _
  have hG : Blk (w.alloc (.cells #[.int .i64 0, .slice none 0 0, .slice none 0 0] 25)) w.heap.size 25 [.int .i64 0, .slice none 0 0, .slice none 0 0] := Blk.new w _ _
  go_enter Try.func25, Try.ntmps25
  go_wp2_with fail
  refine (cloneI_any xs A c _ (hA.below hb1) hc hn).mono ?_
  rintro e w2 ⟨v, rfl, hown, hb2⟩
  obtain ⟨Av, cv, rfl, hcv, -, -⟩ := own_form hown
  have hG2 := hG.kept hb2
  obtain ⟨cG0, cG1, cG2⟩ := blk3 hG2
  have fG0 := hG2.frozen 0
  have fG1 := hG2.frozen 1
  have fG2 := hG2.frozen 2
  have hb3 := hb1.trans (hb2.mono hb1.size)
  have hown' := own_weaken hown (base' := w.heap.size + 1) (by simp)
  clear hG hown
  go_wp2_with fail
  try rw [Exit.noGoto_ret]
  refine bodyPost_ret (results_cell1 rfl _ _ w.heap.size 25 [.int .i64 k, .slice Av xs.length cv, .slice none 0 0] _ rfl ?_ Try.underlying25 rfl (by kernel_rfl)) rfl ?_
  · simpa using ((hG2.set_ 0 (.int .i64 k)).set_ 1 (.slice Av xs.length cv)).set_ 2 (.slice none 0 0)
  · exact ⟨_, rfl, own_weaken (own_set (by omega) (own_set (by omega) (own_set (by omega) hown'))) (by omega), ((hb3.setCell (Nat.le_refl _) _).setCell (Nat.le_refl _) _).setCell (Nat.le_refl _) _⟩

/-- A message that a call made, as an argument. -/
theorem MgO.arg {base : Nat} {w : World} {v : Value} {m : Mg} (h : MgO base w v m) (hI : ∀ n ∈ m.nums, I64 n) (hk : I64 m.kind) : MgV w v m := by
  obtain ⟨vn, vd, rfl, h1, h2⟩ := h
  obtain ⟨A, c, rfl, hc, hR, -⟩ := own_form h1
  obtain ⟨B, d, rfl, hd, hS, -⟩ := own_form h2
  exact ⟨A, c, B, d, rfl, hc, hd, hR, hS, hI, hk⟩
theorem mg0_arg (w : World) : MgV w mg0 ⟨0, [], []⟩ := ⟨none, 0, none, 0, rfl, Nat.le_refl _, Nat.le_refl _, RC.nil _ _, RC.nil _ _, by simp, by unfold I64; simp⟩
theorem isframe_I64 {b : List UInt8} {m : Mg} (h : IsFrame b m) : I64 m.kind := by have := h.1.1; unfold I64; omega

def m7 : Mg := ⟨13, [7], []⟩
theorem m7_good : Good m7 := ⟨⟨by simp [m7], by simp [m7]⟩, by simp [m7], by simp [m7]⟩
theorem m7_frame : IsFrame (frame m7) m7 := ⟨m7_good, by intro n hn; simp [m7] at hn; subst hn; unfold I64; omega, rfl⟩
theorem m7_len : (frame m7).length = 21 := by rw [frame_len]; rfl

set_option maxHeartbeats 1600000 in
theorem alive06_any (w : World) : Calls Try.prog 10 #[] w fun e w' => e = .returned (.bool true) ∧ Below w.heap.size w w' := by
  go_enter Try.func10, Try.ntmps10
  have hb1 : Below w.heap.size w (w.alloc (.cells #[.int .i64 7] 3)) := (Below.refl w.heap.size w).alloc (Nat.le_refl _) _
  go_wp2_with fail
  refine (make_any 13 [7] (some ⟨w.heap.size, 0, none⟩) 1 _ (rc_at w [.int .i64 7] _ _ rfl) (by simp) (by simp)).mono ?_
  rintro e w2 ⟨v, rfl, hown2, hb2⟩
  have hv : MgV w2 (.agg #[.int .i64 13, v, .slice none 0 0]) m7 := by
    obtain ⟨A, c, rfl, hc, hR, -⟩ := own_form hown2
    exact ⟨A, c, none, 0, rfl, hc, Nat.le_refl _, hR, RC.nil _ _, m7_frame.2.1, by unfold I64 m7; simp⟩
  have hb2' := hb1.trans (hb2.mono hb1.size)
  clear hown2
  go_wp2_with fail
  refine (frame_good _ _ w2 hv m7_good).mono ?_
  rintro e w3 ⟨v3, rfl, hown3, hb3⟩
  have hfr := m7_frame
  have hfl := m7_len
  generalize frame m7 = fr at *
  obtain ⟨B3, c3, rfl, hc3, hR3, -⟩ := own_form hown3
  have hlq : ((fr.length : Int) == 21) = true := by rw [hfl]; rfl
  have HFL := Lib.hid hfl
  clear hfl hown3 hv
  have hb3' := hb2'.trans (hb3.mono hb2'.size)
  go_wp2_with fail
  refine (parse_any fr B3 c3 w3 hR3 hc3 (by rw [HFL.out]; omega)).mono ?_
  rintro e w4 ⟨⟨hp, -⟩, hb4⟩
  obtain ⟨v4, rfl, hv4⟩ := hp m7 hfr
  obtain ⟨vn, vd, rfl, ho1, ho2⟩ := hv4
  obtain ⟨A4, c4, rfl, hc4, hR4, -⟩ := own_form ho1
  obtain ⟨B4, d4, rfl, hd4, hS4, -⟩ := own_form ho2
  have hb4' := hb3'.trans (hb4.mono hb3'.size)
  have hs4 := hb4'.size
  clear hp ho1 ho2
  have hkk : m7.kind = 13 := rfl
  have hnn : m7.nums = [7] := rfl
  have hdd : m7.data = [] := rfl
  rw [hkk, hnn, hdd]
  rw [hnn] at hR4
  go_wp2_with fail
  have hbl : Blk ((w4.alloc (.cells #[.int .i64 13, .slice A4 1 c4, .slice B4 0 d4] 25)).alloc (.cells #[.int .i64 7] 3)) w4.heap.size 25 [.int .i64 13, .slice A4 1 c4, .slice B4 0 d4] := (Blk.new w4 _ _).alloc _
  have hb5 : Below w.heap.size w ((w4.alloc (.cells #[.int .i64 13, .slice A4 1 c4, .slice B4 0 d4] 25)).alloc (.cells #[.int .i64 7] 3)) := (hb4'.alloc hs4 _).alloc (by simp; omega) _
  refine (ints_any [7] [7] A4 (some ⟨w4.heap.size + 1, 0, none⟩) c4 1 _ (hR4.below (((Below.refl _ w4).alloc (Nat.le_refl _) _).alloc (by simp) _)) (rc_at _ [.int .i64 7] _ _ (by simp)) (by simp)).mono ?_
  rintro e w5 ⟨rfl, hb6⟩
  rw [show decide (([7] : List Int) = [7]) = true from rfl]
  obtain ⟨cX0, cX1, cX2⟩ := blk3 (hbl.kept hb6)
  go_wp2_with fail
  go_ret
  exact ⟨rfl, hb5.trans (hb6.mono hb5.size)⟩

theorem u8_xor (a b : UInt8) : bits .xor .u8 (a.toNat : Int) (b.toNat : Int) = ((a ^^^ b).toNat : Int) := by
  rw [UInt8.toNat_xor]
  exact u8_xor_nat _ _ (by have := a.toNat_lt; omega) (by have := b.toNat_lt; omega)

set_option maxHeartbeats 800000 in
theorem over_any (xs : List UInt8) (g c n : Nat) (hn : n ≤ xs.length) (hn4 : n ≤ 4000000) (w : World) (hg : Blk w g 5 (xs.map bv)) :
    Calls Try.prog 22 #[.slice (some ⟨g, 0, none⟩) n c] w fun e w' => (∃ v, e = .returned v) ∧ w.grownBy w' (some g) := by
  go_enter Try.func22, Try.ntmps22
  go_wp2_with fail
  go_loopw [5] (fun i wr => ∃ (k : Nat) (ys : List UInt8), k ≤ n ∧ i = .int .i64 (k : Int) ∧ Hid (n ≤ ys.length) ∧ Blk wr g 5 (ys.map bv) ∧ w.grownBy wr (some g)) (fun i _ => n - (intOf i).toNat)
  case atStart => exact ⟨0, xs, Nat.zero_le _, rfl, hn, hg, World.grownBy.refl w _⟩
  case round =>
    obtain ⟨k, ys, hk, rfl, HL, hb, hgr⟩ := hrel
    by_cases hlt : k < n
    · have hkl : k < ys.length := by have := HL.out; omega
      have cc := hb.cell k
      rw [List.getElem?_map, List.getElem?_eq_getElem hkl] at cc
      have cf := hb.frozen k
      have HB : Hid (Blk (wr.setCell ⟨g, k, none⟩ (bv (ys[k] ^^^ 255))) g 5 ((ys.set k (ys[k] ^^^ 255)).map bv)) := by
        have h := hb.set_ k (bv (ys[k] ^^^ 255))
        rw [← List.map_set] at h
        exact h
      have hx : bits .xor .u8 (ys[k].toNat : Int) 255 = ((ys[k] ^^^ 255).toNat : Int) := u8_xor ys[k] 255
      simp only [Option.map_some, bv] at cc
      generalize ys[k] = y at *
      generalize hz : y ^^^ 255 = z at *
      clear hz
      go_wp2
      go_roundw
      case rel => exact ⟨k + 1, _, by omega, by go_num, by have := HL.out; show _ ≤ (ys.set k z).length; simpa using this, HB.out, hgr.trans (grown_set wr g k _)⟩
      case measure => simp [intOf]; omega
    · go_wp2
      refine bodyPost_end (results_none rfl _ _ _) rfl ?_
      exact ⟨⟨_, rfl⟩, hgr⟩
end Go.Proofs.Ytgmimindhhpkgaa
