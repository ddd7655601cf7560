/- The plain law of frames by places. -/
import Derived.Test.YtgmimindhhpkgaaCodecPure
namespace Go.Proofs.Ytgmimindhhpkgaa
set_option linter.unusedVariables false
set_option linter.unusedSimpArgs false

def numAt (b : List UInt8) (i : Nat) : Int := s64 (val ((b.drop (5 + 8 * i)).take 8))
def numsAt (b : List UInt8) (n : Nat) : List Int := (List.range n).map (numAt b)
def placed (b : List UInt8) (k n : Nat) : Mg := { kind := k, nums := numsAt b n, data := (b.drop (9 + 8 * n)).take (b.length - 4 - (9 + 8 * n)) }
theorem numsAt_len (b : List UInt8) (n : Nat) : (numsAt b n).length = n := by simp [numsAt]
theorem numsAt_snoc (b : List UInt8) (n : Nat) : numsAt b (n + 1) = numsAt b n ++ [numAt b n] := by simp [numsAt, List.range_succ]
theorem numsAt_I64 (b : List UInt8) (n : Nat) : ∀ x ∈ numsAt b n, I64 x := by
  intro x hx
  obtain ⟨i, _, rfl⟩ := List.mem_map.1 hx
  exact s64_I64 _
theorem nbytes_drop (i : Nat) : ∀ (l : List Int) (t : List UInt8), i ≤ l.length → (nbytes l ++ t).drop (8 * i) = nbytes (l.drop i) ++ t := by
  induction i with
  | zero => intro l t _; simp
  | succ i ih =>
    intro l t h
    cases l with
    | nil => simp at h
    | cons n r =>
      have e : nbytes (n :: r) ++ t = be 8 (u64 n) ++ (nbytes r ++ t) := by unfold nbytes; rw [List.flatMap_cons, List.append_assoc]
      rw [e, show 8 * (i + 1) = 8 + 8 * i from by omega, ← List.drop_drop, List.drop_append_of_le_length (by simp [be_len]), show (be 8 (u64 n)).drop 8 = [] from List.drop_of_length_le (by simp [be_len]), List.nil_append, ih r t (by simpa using h)]
      rfl
theorem frame_cons (m : Mg) : frame m = 84 :: 80 :: 1 :: UInt8.ofNat m.kind.toNat :: UInt8.ofNat m.nums.length :: (nbytes m.nums ++ (be 4 m.data.length ++ (m.data ++ be 4 (crc (body m))))) := by
  unfold frame body hd
  simp
theorem placed_is {b : List UInt8} {m : Mg} (h : IsFrame b m) : 13 + 8 * m.nums.length ≤ b.length ∧ b[4]? = some (UInt8.ofNat m.nums.length) ∧ b[3]? = some (UInt8.ofNat m.kind.toNat) ∧ m = placed b m.kind.toNat m.nums.length := by
  obtain ⟨⟨⟨g1, g2⟩, g3, g4⟩, hI, hf⟩ := h
  have hlen := frame_len m
  have hc := frame_cons m
  rw [hf] at hlen hc
  refine ⟨by omega, by rw [hc]; rfl, by rw [hc]; rfl, ?_⟩
  have d5 : ∀ k, b.drop (5 + k) = (nbytes m.nums ++ (be 4 m.data.length ++ (m.data ++ be 4 (crc (body m))))).drop k := by
    intro k
    rw [hc, ← List.drop_drop]
    rfl
  have e1 : numsAt b m.nums.length = m.nums := by
    apply List.ext_getElem (numsAt_len _ _)
    intro i h1 h2
    simp only [numsAt, List.getElem_map, List.getElem_range, numAt]
    rw [d5, nbytes_drop i _ _ (by omega), List.drop_eq_getElem_cons h2]
    have e : nbytes (m.nums[i] :: m.nums.drop (i + 1)) = be 8 (u64 m.nums[i]) ++ nbytes (m.nums.drop (i + 1)) := by unfold nbytes; rw [List.flatMap_cons]
    rw [e, List.append_assoc, List.take_append_of_le_length (by simp [be_len]), List.take_of_length_le (by simp [be_len]), val_be, Nat.mod_eq_of_lt (by have := u64_lt m.nums[i]; have h4 : (256 : Nat) ^ 8 = 18446744073709551616 := (by decide); omega)]
    exact s64_u64 _ (hI _ (List.getElem_mem _))
  have e2 : (b.drop (9 + 8 * m.nums.length)).take (b.length - 4 - (9 + 8 * m.nums.length)) = m.data := by
    rw [show 9 + 8 * m.nums.length = 5 + (8 * m.nums.length + 4) from by omega, d5, ← List.drop_drop, nbytes_drop _ _ _ (Nat.le_refl _)]
    rw [List.drop_of_length_le (Nat.le_refl m.nums.length), show nbytes [] = [] from rfl, List.nil_append, List.drop_append_of_le_length (by simp [be_len]), show (be 4 m.data.length).drop 4 = [] from List.drop_of_length_le (by simp [be_len]), List.nil_append,
      List.take_append_of_le_length (by omega), List.take_of_length_le (by omega)]
  obtain ⟨k, ns, dt⟩ := m
  simp only at e1 e2 g1
  unfold placed
  rw [e1, e2]
  simp only [Mg.mk.injEq, and_true]
  omega
theorem placed_not {b : List UInt8} (h : b.length < 13 ∨ (∃ h4 : 4 < b.length, 40 < (b[4]).toNat) ∨ (∃ h4 : 4 < b.length, b.length < 13 + 8 * (b[4]).toNat)) : ∀ m, ¬ IsFrame b m := fun m hm => by
  obtain ⟨h1, h2, h3, h4⟩ := placed_is hm
  have hg := hm.1.2.1
  have h5 : ∀ h4 : 4 < b.length, (b[4]).toNat = m.nums.length := fun h4 => by
    rw [List.getElem?_eq_getElem h4] at h2
    injection h2 with h2
    rw [h2, UInt8.toNat_ofNat']
    omega
  rcases h with h | ⟨h, h'⟩ | ⟨h, h'⟩
  · omega
  · rw [h5] at h'; omega
  · rw [h5] at h'; omega
theorem placed_eq {b : List UInt8} {m : Mg} (hm : IsFrame b m) {k n : Nat} (h3 : b[3]?.map (·.toNat) = some k) (h4 : b[4]?.map (·.toNat) = some n) : m = placed b k n := by
  obtain ⟨h1, h2, h5, h6⟩ := placed_is hm
  have hg := hm.1
  obtain ⟨⟨g1, g2⟩, g3, g4⟩ := hg
  rw [h2] at h4
  rw [h5] at h3
  simp [UInt8.toNat_ofNat'] at h3 h4
  rw [show m.kind.toNat = k from by omega, show m.nums.length = n from by omega] at h6
  exact h6
end Go.Proofs.Ytgmimindhhpkgaa
