/- The plain law of slips: a frame with a byte changed, or cut, is none. -/
import Derived.Test.YtgmimindhhpkgaaPlaces
import Derived.Test.YtgmimindhhpkgaaSumSlipPure
namespace Go.Proofs.Ytgmimindhhpkgaa
set_option linter.unusedVariables false
set_option linter.unusedSimpArgs false

theorem be4_inj {a b : Nat} (ha : a < 4294967296) (hb : b < 4294967296) (h : be 4 a = be 4 b) : a = b := by
  have h1 := val_be 4 a
  have h2 := val_be 4 b
  have h4 : (256 : Nat) ^ 4 = 4294967296 := by decide
  rw [h4] at h1 h2
  rw [h, h2] at h1
  omega
theorem frame_len4 (m : Mg) : ((frame m).drop (5 + 8 * m.nums.length)).take 4 = be 4 m.data.length := by
  have d5 : ∀ k, (frame m).drop (5 + k) = (nbytes m.nums ++ (be 4 m.data.length ++ (m.data ++ be 4 (crc (body m))))).drop k := by
    intro k
    rw [frame_cons, ← List.drop_drop]
    rfl
  rw [d5, nbytes_drop _ _ _ (Nat.le_refl _), List.drop_of_length_le (Nat.le_refl m.nums.length), show nbytes [] = [] from rfl, List.nil_append, List.take_append_of_le_length (by simp [be_len]), List.take_of_length_le (by simp [be_len])]
theorem cut_not {m m' : Mg} (hg : Good m) {i : Nat} (hi : i < (frame m).length) : ¬ IsFrame ((frame m).take i) m' := by
  intro h
  have hf := h.2.2
  have hg' := h.1
  have hl := frame_len m
  have hl' := frame_len m'
  have hlt : (frame m').length = i := by rw [hf, List.length_take]; omega
  have e4 : (frame m')[4]? = (frame m)[4]? := by rw [hf, List.getElem?_take]; rw [if_pos (by omega)]
  have f4 : (frame m)[4]? = some (UInt8.ofNat m.nums.length) := by rw [frame_cons]; rfl
  have f4' : (frame m')[4]? = some (UInt8.ofNat m'.nums.length) := by rw [frame_cons]; rfl
  rw [f4, f4'] at e4
  injection e4 with e4
  have n1 := hg.2.1
  have n2 := hg'.2.1
  have d1 := hg.2.2
  have d2 := hg'.2.2
  have en : m'.nums.length = m.nums.length := by
    have := congrArg UInt8.toNat e4
    rw [UInt8.toNat_ofNat', UInt8.toNat_ofNat'] at this
    omega
  have e5 := frame_len4 m'
  rw [hf, en, List.drop_take, List.take_take, Nat.min_eq_left (by omega), frame_len4 m] at e5
  have := be4_inj (by omega) (by omega) e5
  omega
theorem slip_not {m m' : Mg} {p s : List UInt8} {x y : UInt8} (hm : frame m = p ++ x :: s) (hxy : x ≠ y) : ¬ IsFrame (p ++ y :: s) m' := by
  intro h
  have hf := h.2.2
  have hl : (frame m).length = (frame m').length := by rw [hm, hf]; simp
  have hb : (body m).length = (body m').length := by
    unfold frame at hl
    simp only [List.length_append, be_len] at hl
    omega
  unfold frame at hm hf
  have t1 : (p ++ x :: s).take (body m).length = body m := by rw [← hm, List.take_append_of_le_length (Nat.le_refl _), List.take_length]
  have t2 : (p ++ y :: s).take (body m).length = body m' := by rw [← hf, hb, List.take_append_of_le_length (Nat.le_refl _), List.take_length]
  have r1 : (p ++ x :: s).drop (body m).length = be 4 (crc (body m)) := by rw [← hm, List.drop_append_of_le_length (Nat.le_refl _), List.drop_of_length_le (Nat.le_refl _), List.nil_append]
  have r2 : (p ++ y :: s).drop (body m).length = be 4 (crc (body m')) := by rw [← hf, hb, List.drop_append_of_le_length (Nat.le_refl _), List.drop_of_length_le (Nat.le_refl _), List.nil_append]
  by_cases hp : p.length < (body m).length
  · obtain ⟨j, hj⟩ : ∃ j, (body m).length = p.length + (j + 1) := ⟨(body m).length - p.length - 1, by omega⟩
    rw [hj, List.drop_append, List.drop_of_length_le (show p.length ≤ p.length + (j + 1) by omega), show p.length + (j + 1) - p.length = j + 1 from by omega, List.nil_append, List.drop_succ_cons] at r1 r2
    rw [hj, List.take_append, List.take_of_length_le (show p.length ≤ p.length + (j + 1) by omega), show p.length + (j + 1) - p.length = j + 1 from by omega, List.take_succ_cons] at t1 t2
    have hc := be4_inj (crc_lt (body m)) (crc_lt (body m')) (r1.symm.trans r2)
    rw [← t1, ← t2] at hc
    exact crc_slip p (s.take j) x y hxy hc
  · rw [List.take_append_of_le_length (by omega)] at t1 t2
    have hbb : body m = body m' := t1.symm.trans t2
    rw [← hbb] at hf
    have he := hm.symm.trans hf
    have := List.append_cancel_left he
    injection this with e
    exact hxy e
end Go.Proofs.Ytgmimindhhpkgaa
