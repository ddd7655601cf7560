/- The walks of towpathref06.Good and Frame. -/
import Derived.Test.YtgmimindhhpkgaaFrame
import Derived.Test.YtgmimindhhpkgaaRefCheck
namespace Go.Proofs.Ytgmimindhhpkgaa
set_option linter.unusedVariables false
set_option linter.unusedSimpArgs false
open Go.RowKit

set_option maxHeartbeats 800000 in
theorem rgood_bad (m : Mg) (v : Value) (w : World) (hv : MgV w v m) (hb : ¬ Good m) :
    Calls Try.prog 33 #[v] w fun e w' => e = .returned (.bool false) ∧ Below w.heap.size w w' := by
  obtain ⟨A, c, B, d, rfl, lc, ld, hA, hB, hN, hK⟩ := hv
  have hb2 : m.kind < 0 ∨ (0 ≤ m.kind ∧ 255 < m.kind) ∨ ((0 ≤ m.kind ∧ m.kind ≤ 255) ∧ 40 < m.nums.length) ∨ ((0 ≤ m.kind ∧ m.kind ≤ 255) ∧ m.nums.length ≤ 40 ∧ 65536 < m.data.length) := by unfold Good at hb; omega
  clear hb
  rcases hb2 with h | ⟨h, h'⟩ | ⟨⟨h, h'⟩, h''⟩ | ⟨⟨h, h'⟩, h'', h'''⟩
  all_goals
    go_enter Try.func33, Try.ntmps33
    go_wp2
    go_ret
    exact ⟨by first | rfl | (simp; omega), (Below.refl _ _).alloc (Nat.le_refl _) _⟩
set_option maxHeartbeats 800000 in
theorem rgood_good (m : Mg) (v : Value) (w : World) (hv : MgV w v m) (hg : Good m) :
    Calls Try.prog 33 #[v] w fun e w' => e = .returned (.bool true) ∧ Below w.heap.size w w' := by
  obtain ⟨A, c, B, d, rfl, lc, ld, hA, hB, hN, hK⟩ := hv
  obtain ⟨⟨g1, g2⟩, g3, g4⟩ := hg
  go_enter Try.func33, Try.ntmps33
  go_wp2
  go_ret
  exact ⟨by first | rfl | (simp; omega), (Below.refl _ _).alloc (Nat.le_refl _) _⟩

set_option maxHeartbeats 800000 in
theorem rframe_bad (m : Mg) (v : Value) (w : World) (hv : MgV w v m) (hb : ¬ Good m) :
    Calls Try.prog 14 #[v] w fun e w' => e = .returned (.tuple #[.slice none 0 0, .int .i64 9]) ∧ Below w.heap.size w w' := by
  have hv2 := hv
  obtain ⟨A, c, B, d, rfl, lc, ld, hA, hB, hN, hK⟩ := hv2
  go_enter Try.func14, Try.ntmps14
  go_wp2_with fail
  refine (rgood_bad m _ _ (hv.below ((Below.refl _ _).alloc (Nat.le_refl _) _)) hb).mono ?_
  rintro e w1 ⟨rfl, hb1⟩
  go_wp2_with fail
  go_ret2
  exact ⟨rfl, ((Below.refl _ _).alloc (Nat.le_refl _) _).trans (hb1.mono (by simp))⟩

set_option maxHeartbeats 1600000 in
theorem rframe_good (m : Mg) (v : Value) (w : World) (hv : MgV w v m) (hg : Good m) :
    Calls Try.prog 14 #[v] w fun e w' => ∃ v', e = .returned (.tuple #[v', .int .i64 0]) ∧ w'.ownsRow w.heap.size 5 1 v' (frame m).length ((frame m).map bv) ∧ Below w.heap.size w w' := by
  have hv2 := hv
  obtain ⟨A, c, B, d, rfl, lc, ld, hA, hB, hN, hK⟩ := hv2
  have hg2 := hg
  obtain ⟨⟨g1, g2⟩, g3, g4⟩ := hg2
  obtain ⟨i0, hi, hz0, hz1, hz2⟩ := info_parts info_u8
  go_enter Try.func14, Try.ntmps14
  go_wp2_with fail
  refine (rgood_good m _ _ (hv.below ((Below.refl _ _).alloc (Nat.le_refl _) _)) hg).mono ?_
  rintro e w1 ⟨rfl, hb1⟩
  have hblk1 : Blk w1 w.heap.size 25 [.int .i64 m.kind, .slice A m.nums.length c, .slice B m.data.length d] := (Blk.new w 25 _).below hb1 (by simp)
  have hb1' : Below w.heap.size w w1 := ((Below.refl _ _).alloc (Nat.le_refl _) _).trans (hb1.mono (by simp))
  have hs1 := hblk1.lt
  obtain ⟨cK1, cN1, cD1⟩ := blk3 hblk1
  have hhd : Hid ([Value.int .u8 84, .int .u8 80, .int .u8 1, .int .u8 m.kind, .int .u8 (m.nums.length : Int)] = (hd m).map bv) := by
    show _ = (hd m).map bv
    have e1 : ((UInt8.ofNat m.kind.toNat).toNat : Int) = m.kind := by rw [UInt8.toNat_ofNat']; omega
    have e2 : ((UInt8.ofNat m.nums.length).toNat : Int) = (m.nums.length : Int) := by rw [UInt8.toNat_ofNat']; omega
    simp only [hd, List.map_cons, List.map_nil, bv, e1, e2]
    rfl
  have hh5 : (hd m).length = 5 := rfl
  have HH5 := Lib.hid hh5
  clear hh5 hb1
  have hown2 : (w1.alloc (.cells #[.int .u8 84, .int .u8 80, .int .u8 1, .int .u8 m.kind, .int .u8 (m.nums.length : Int)] 5)).ownsRow (w.heap.size + 1) 5 1 (.slice (some ⟨w1.heap.size, 0, none⟩) 5 5) 5 ((hd m).map bv) := by
    rw [← hhd.out]
    exact ⟨rfl, .inr ⟨w1.heap.size, 5, _, rfl, by omega, heap_alloc_new w1 _, Nat.le_refl _, by unfold maxLen; omega, rfl, rfl⟩⟩
  have hb2 : Below w.heap.size w (w1.alloc (.cells #[.int .u8 84, .int .u8 80, .int .u8 1, .int .u8 m.kind, .int .u8 (m.nums.length : Int)] 5)) := hb1'.alloc hb1'.size _
  have hblk := hblk1.alloc (.cells #[.int .u8 84, .int .u8 80, .int .u8 1, .int .u8 m.kind, .int .u8 (m.nums.length : Int)] 5)
  go_wp2_with fail
  generalize w1.alloc (.cells #[.int .u8 84, .int .u8 80, .int .u8 1, .int .u8 m.kind, .int .u8 (m.nums.length : Int)] 5) = w2 at *
  clear hblk1 cK1 cN1 cD1 hb1' hhd
  have hsz : w.heap.size + 1 ≤ w2.heap.size := hblk.lt
  obtain ⟨cK, cN, cD⟩ := blk3 hblk
  go_loopw [4, 5] (fun v' i wr => ∃ k : Nat, k ≤ m.nums.length ∧ i = .int .i64 (k : Int) ∧ wr.ownsRow (w.heap.size + 1) 5 1 v' (hd m ++ nbytes (m.nums.take k)).length ((hd m ++ nbytes (m.nums.take k)).map bv) ∧ Below (w.heap.size + 1) w2 wr) (fun _ i _ => m.nums.length - (intOf i).toNat)
  case atStart => exact ⟨0, Nat.zero_le _, rfl, by rw [List.take_zero]; simpa [nbytes, HH5.out] using hown2, Below.refl _ _⟩
  case round =>
    obtain ⟨k, hk, rfl, hown, hbr⟩ := hrel
    have hbr' : Below w.heap.size w wr := hb2.trans (hbr.mono (by omega))
    obtain ⟨cKr, cNr, cDr⟩ := blk3 (hblk.below hbr (by omega))
    have hbs := hbr.size
    by_cases hlt : k < m.nums.length
    · obtain ⟨ad, rfl, ca⟩ := hA k (.int .i64 m.nums[k]) (by rw [List.getElem?_map, List.getElem?_eq_getElem hlt]; rfl)
      replace ca := cell_keep hbr' ca
      have HS : Hid (nbytes (m.nums.take (k + 1)) = nbytes (m.nums.take k) ++ be 8 (u64 m.nums[k])) := by show nbytes (m.nums.take (k + 1)) = _; rw [take_snoc _ _ hlt, nbytes_snoc]
      have hln : (hd m ++ nbytes (m.nums.take k)).length ≤ 400 := by rw [List.length_append, HH5.out, nbytes_len, List.length_take]; omega
      have hw : IntKind.u64.wrap m.nums[k] = ((u64 m.nums[k] : Nat) : Int) := by unfold u64; simp [IntKind.wrap, IntKind.bits, IntKind.signed]; omega
      have hul := u64_lt m.nums[k]
      generalize m.nums[k] = n at *
      generalize hq : hd m ++ nbytes (m.nums.take k) = q at *
      have HQ := Lib.hid hq
      clear hq
      go_wp2_with fail
      refine (number_any 8 (u64 n) (w.heap.size + 1) u4 q wr (by omega) hul (by omega) (by omega) hown).mono ?_
      rintro e w3 ⟨v3, rfl, hown3, hb3, -⟩
      clear hown cKr cNr cDr
      go_wp2
      go_roundw
      case rel => exact ⟨k + 1, by omega, by go_num, by rw [HS.out, ← List.append_assoc, HQ.out]; exact hown3, hbr.trans hb3⟩
      case measure => simp [intOf]; omega
    · obtain rfl : k = m.nums.length := by omega
      rw [List.take_length] at hown
      have hln : (hd m ++ nbytes m.nums).length ≤ 400 := by rw [List.length_append, HH5.out, nbytes_len]; omega
      have HB : Hid (body m = hd m ++ nbytes m.nums ++ be 4 m.data.length ++ m.data) := rfl
      have HF : Hid (frame m = body m ++ be 4 (crc (body m))) := rfl
      generalize hd m ++ nbytes m.nums = q at *
      go_wp2_with fail
      refine (number_any 4 m.data.length (w.heap.size + 1) u4 q wr (by omega) (by omega) (by omega) (by omega) hown).mono ?_
      rintro e w3 ⟨v3, rfl, hown3, hb3, -⟩
      clear hown cKr cNr cDr
      have hb3' : Below (w.heap.size + 1) w2 w3 := hbr.trans hb3
      have hb3'' : Below w.heap.size w w3 := hb2.trans (hb3'.mono (by omega))
      obtain ⟨cK3, cN3, cD3⟩ := blk3 (hblk.below hb3' (by omega))
      have hbs3 := hb3'.size
      have hq1 : (q ++ be 4 m.data.length).length ≤ 404 := by rw [List.length_append, be_len]; omega
      generalize q ++ be 4 m.data.length = q1 at *
      go_wp2_with (at_builtin; refine wl_app _ rfl (.tmp 38) (.tmp 40) 23 rfl (w.heap.size + 1) 5 i0 (.int .u8 0) 1 1 Try.underlying23 hi hz0 hz1 hz2 rfl (by omega) _ _ _ rfl hown3 B m.data.length d (m.data.map bv) rfl (by simp) (hB.below hb3'') (one_bv m.data) (by unfold maxLen; omega) (by omega) (by omega) ?_)
      intro v4 w4 hown4 hg4 _
      have hb4 : Below (w.heap.size + 1) w2 w4 := hb3'.grown hg4 (by omega) (fun g hg => (hown3.lt g hg).1)
      clear hown3 hg4 cK3 cN3 cD3 hb3 hb3' hb3''
      rw [← List.map_append, show q1.length + m.data.length = (q1 ++ m.data).length from by simp] at hown4
      have hbl : (q1 ++ m.data).length ≤ 70000 := by rw [List.length_append]; omega
      rw [← HB.out] at hown4 hbl
      have hbs4 := hb4.size
      generalize body m = bo at *
      obtain ⟨B4, c4, hv4, hc4, hR4, -⟩ := own_form hown4
      subst hv4
      go_wp2_with fail
      refine (rcheck_any bo B4 c4 w4 hR4 (by omega)).mono ?_
      rintro e w5 ⟨rfl, hw⟩
      have hb5 : Below (w.heap.size + 1) w2 w5 := by rw [hw]; exact hb4
      have hown5 : w5.ownsRow (w.heap.size + 1) 5 1 (.slice B4 bo.length c4) bo.length (bo.map bv) := by rw [hw]; exact hown4
      clear hw hown4 hb4 hR4
      have hcl := crc_lt bo
      generalize crc bo = cr at *
      have hbs5 := hb5.size
      go_wp2_with fail
      refine (number_any 4 cr (w.heap.size + 1) (.slice B4 bo.length c4) bo w5 (by omega) (by omega) (by omega) (by omega) hown5).mono ?_
      rintro e w6 ⟨v6, rfl, hown6, hb6, -⟩
      go_wp2_with fail
      go_ret2
      refine ⟨v6, rfl, ?_, hb2.trans ((hb5.trans hb6).mono (by omega))⟩
      rw [HF.out]
      exact own_weaken hown6 (by omega)
end Go.Proofs.Ytgmimindhhpkgaa
