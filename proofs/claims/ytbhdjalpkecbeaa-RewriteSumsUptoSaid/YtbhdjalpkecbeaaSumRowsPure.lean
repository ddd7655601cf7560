/- A row that bears its own sum: the plain law. -/
import Derived.Test.YtbhdjalpkecbeaaSumPure
namespace Go.Proofs.Ytbhdjalpkecbeaa
set_option linter.unusedVariables false
set_option linter.unusedSimpArgs false

/-- The i-th word; a word put. -/
def wordAt (l : List UInt8) (i : Nat) : Nat := 256 * (l.getD (2 * i) 0).toNat + (l.getD (2 * i + 1) 0).toNat
def setw (l : List UInt8) (i n : Nat) : List UInt8 := (l.set (2 * i) (UInt8.ofNat (n / 256))).set (2 * i + 1) (UInt8.ofNat n)
theorem setw_len (l : List UInt8) (i n : Nat) : (setw l i n).length = l.length := by unfold setw; simp
theorem split_at (l : List UInt8) (i : Nat) (h : 2 * i + 1 < l.length) : ∃ p x y s, l = p ++ x :: y :: s ∧ p.length = 2 * i := by
  refine ⟨l.take (2 * i), l[2 * i]'(by omega), l[2 * i + 1], l.drop (2 * i + 2), ?_, by rw [List.length_take]; omega⟩
  rw [← List.drop_eq_getElem_cons h, ← List.drop_eq_getElem_cons (show 2 * i < l.length by omega), List.take_append_drop]
theorem wsum_split (p : List UInt8) (x y : UInt8) (s : List UInt8) (hp : p.length % 2 = 0) : wsum true (p ++ x :: y :: s) = wsum true p + (256 * x.toNat + y.toNat) + wsum true s := by
  rw [wsum_append]
  have e : after true p.length = true := by unfold after; rw [if_pos hp]
  rw [e]
  simp only [wsum]
  omega
theorem getD_split (p : List UInt8) (x y : UInt8) (s : List UInt8) (i : Nat) (hp : p.length = 2 * i) : (p ++ x :: y :: s).getD (2 * i) 0 = x ∧ (p ++ x :: y :: s).getD (2 * i + 1) 0 = y := by
  constructor
  · rw [List.getD_eq_getElem?_getD, List.getElem?_append_right (by omega), show 2 * i - p.length = 0 from by omega]; rfl
  · rw [List.getD_eq_getElem?_getD, List.getElem?_append_right (by omega), show 2 * i + 1 - p.length = 1 from by omega]; rfl
theorem set_split (p : List UInt8) (x y : UInt8) (s : List UInt8) (i : Nat) (hp : p.length = 2 * i) (a b : UInt8) : ((p ++ x :: y :: s).set (2 * i) a).set (2 * i + 1) b = p ++ a :: b :: s := by
  rw [List.set_append_right _ _ (by omega), List.set_append_right _ _ (by omega), show 2 * i - p.length = 0 from by omega, show 2 * i + 1 - p.length = 1 from by omega]
  rfl
theorem byte_hi (n : Nat) (h : n ≤ 65535) : (UInt8.ofNat (n / 256)).toNat = n / 256 := by rw [UInt8.toNat_ofNat']; omega
theorem byte_lo (n : Nat) : (UInt8.ofNat n).toNat = n % 256 := by rw [UInt8.toNat_ofNat']
theorem wsum_setw (l : List UInt8) (i n : Nat) (h : 2 * i + 1 < l.length) (hn : n ≤ 65535) : wsum true (setw l i n) + wordAt l i = wsum true l + n := by
  obtain ⟨p, x, y, s, rfl, hp⟩ := split_at l i h
  unfold setw wordAt
  rw [set_split _ _ _ _ _ hp, (getD_split p x y s i hp).1, (getD_split p x y s i hp).2, wsum_split _ _ _ _ (by omega), wsum_split _ _ _ _ (by omega), byte_hi n hn, byte_lo]
  omega
theorem word_setw (l : List UInt8) (i n : Nat) (h : 2 * i + 1 < l.length) (hn : n ≤ 65535) : wordAt (setw l i n) i = n := by
  obtain ⟨p, x, y, s, rfl, hp⟩ := split_at l i h
  unfold setw wordAt
  rw [set_split _ _ _ _ _ hp, (getD_split p _ _ s i hp).1, (getD_split p _ _ s i hp).2, byte_hi n hn, byte_lo]
  omega
theorem word_other (l : List UInt8) (i j n : Nat) (hij : i ≠ j) : wordAt (setw l i n) j = wordAt l j := by
  unfold setw wordAt
  simp only [List.getD_eq_getElem?_getD]
  rw [List.getElem?_set_ne (by omega), List.getElem?_set_ne (by omega), List.getElem?_set_ne (by omega), List.getElem?_set_ne (by omega)]
theorem word_lt (l : List UInt8) (i : Nat) : wordAt l i ≤ 65535 := by
  unfold wordAt
  have h1 := (l.getD (2 * i) 0).toNat_lt
  have h2 := (l.getD (2 * i + 1) 0).toNat_lt
  omega

theorem setw_same (l : List UInt8) (i a b : Nat) : setw (setw l i a) i b = setw l i b := by
  unfold setw
  rw [List.set_comm (UInt8.ofNat a) (UInt8.ofNat (b / 256)) (show 2 * i + 1 ≠ 2 * i by omega), List.set_set, List.set_set]
theorem setw_comm (l : List UInt8) (i j a b : Nat) (h : i ≠ j) : setw (setw l i a) j b = setw (setw l j b) i a := by
  unfold setw
  rw [List.set_comm (UInt8.ofNat a) (UInt8.ofNat (b / 256)) (show 2 * i + 1 ≠ 2 * j by omega), List.set_comm (UInt8.ofNat (a / 256)) (UInt8.ofNat (b / 256)) (show 2 * i ≠ 2 * j by omega),
    List.set_comm (UInt8.ofNat a) (UInt8.ofNat b) (show 2 * i + 1 ≠ 2 * j + 1 by omega), List.set_comm (UInt8.ofNat (a / 256)) (UInt8.ofNat b) (show 2 * i ≠ 2 * j + 1 by omega)]
theorem setw_back (l : List UInt8) (i j a b : Nat) (h : i ≠ j) : setw (setw (setw (setw l i 0) i a) j b) i 0 = setw (setw l i 0) j b := by
  rw [setw_comm _ i j a b h, setw_same, setw_comm _ j i b 0 (fun e => h e.symm), setw_same]

theorem fold16_full (n : Nat) (h : 0 < n) (hm : n % 65535 = 0) : fold16 n = 65535 := by unfold fold16; rw [if_neg (by omega)]; omega
theorem fold16_mod (n : Nat) : fold16 n % 65535 = n % 65535 ∧ fold16 n ≤ n := by
  unfold fold16
  split
  · omega
  · constructor
    · omega
    · have := Nat.mod_le (n - 1) 65535; omega
theorem cks_full (l : List UInt8) : cks l = 65535 ↔ wsum true l = 0 := by
  unfold cks fold16
  constructor
  · intro h
    split at h
    · assumption
    · omega
  · intro h; rw [if_pos h]
/-- A row with a place that is 0: its sum laid there makes it good. -/
theorem bears_own (l : List UInt8) (i : Nat) (h : 2 * i + 1 < l.length) (h0 : wordAt l i = 0) (hz : cks l ≠ 65535) : cks (setw l i (cks l)) = 0 := by
  have hw := wsum_setw l i (cks l) h (by unfold cks; omega)
  have hs : wsum true l ≠ 0 := fun e => hz ((cks_full l).2 e)
  have hm := fold16_mod (wsum true l)
  have hle := fold16_le (wsum true l)
  have e : wsum true (setw l i (cks l)) = wsum true l + (65535 - fold16 (wsum true l)) := by rw [h0] at hw; unfold cks at hw ⊢; omega
  show 65535 - fold16 (wsum true (setw l i (cks l))) = 0
  rw [e, fold16_full _ (by omega) (by omega)]
/-- .. and with another word changed and the sum updated. -/
theorem bears_new (l : List UInt8) (i j n : Nat) (hi : 2 * i + 1 < l.length) (hj : 2 * j + 1 < l.length) (hij : i ≠ j) (hn : n ≤ 65535) (h0 : wordAt l i = 0)
    (hz2 : cks (setw l j n) ≠ 65535) : cks (setw (setw l j n) i (upd1 (cks l) (wordAt l j, n))) = 0 := by
  have hwj := wsum_setw l j n hj hn
  have hwl := word_lt l j
  have hl2 : 2 * i + 1 < (setw l j n).length := by rw [setw_len]; exact hi
  have hd := upd1_le (cks l) (wordAt l j, n)
  have hwi := wsum_setw (setw l j n) i (upd1 (cks l) (wordAt l j, n)) hl2 hd
  rw [word_other l j i n (fun e => hij e.symm), h0] at hwi
  have hs2 : wsum true (setw l j n) ≠ 0 := fun e => hz2 ((cks_full _).2 e)
  have hf := fold16_mod (wsum true l)
  have hfl := fold16_le (wsum true l)
  have hc : 65535 - cks l = fold16 (wsum true l) := by unfold cks; omega
  have hu : upd1 (cks l) (wordAt l j, n) = 65535 - fold16 (fold16 (wsum true l) + (65535 - wordAt l j) + n) := by unfold upd1; rw [hc]
  have hg := fold16_mod (fold16 (wsum true l) + (65535 - wordAt l j) + n)
  have hgl := fold16_le (fold16 (wsum true l) + (65535 - wordAt l j) + n)
  show 65535 - fold16 (wsum true (setw (setw l j n) i _)) = 0
  rw [fold16_full _ (by omega) (by omega)]
end Go.Proofs.Ytbhdjalpkecbeaa
