/- The plain law of checksums: what fold, Sum, Update and Check compute. -/
namespace Go.Proofs.Ytkgkbmiacomhdaa
set_option linter.unusedVariables false
set_option linter.unusedSimpArgs false

/-- The sum of words, the first byte being a high one or not. -/
def wsum : Bool → List UInt8 → Nat
  | _, [] => 0
  | true, b :: r => b.toNat * 256 + wsum false r
  | false, b :: r => b.toNat + wsum true r
/-- Which byte comes behind xs. -/
def after (h : Bool) (n : Nat) : Bool := if n % 2 = 0 then h else !h
/-- What is above 16 bits carried in. -/
def fold16 (n : Nat) : Nat := if n = 0 then 0 else (n - 1) % 65535 + 1
/-- The Internet checksum. -/
def cks (xs : List UInt8) : Nat := 65535 - fold16 (wsum true xs)

theorem fold16_small (n : Nat) (h : n ≤ 65535) : fold16 n = n := by unfold fold16; split <;> omega
theorem fold16_step (n : Nat) (h : 65535 < n) : fold16 (n % 65536 + n / 65536) = fold16 n := by
  unfold fold16
  rw [if_neg (by omega), if_neg (by omega)]
  have h1 : n = 65536 * (n / 65536) + n % 65536 := by omega
  omega
theorem fold16_le (n : Nat) : fold16 n ≤ 65535 := by unfold fold16; split <;> omega
theorem after_succ (h : Bool) (n : Nat) : after h (n + 1) = !(after h n) := by
  unfold after
  by_cases e : n % 2 = 0
  · rw [if_pos e, if_neg (by omega)]
  · rw [if_neg e, if_pos (by omega)]; simp
theorem after_zero (h : Bool) : after h 0 = h := rfl
theorem after_add (h : Bool) (n m : Nat) : after (after h n) m = after h (n + m) := by
  unfold after
  by_cases e : n % 2 = 0 <;> by_cases f : m % 2 = 0
  · rw [if_pos e, if_pos f, if_pos (by omega)]
  · rw [if_pos e, if_neg f, if_neg (by omega)]
  · rw [if_neg e, if_pos f, if_neg (by omega)]
  · rw [if_neg e, if_neg f, if_pos (by omega)]; simp
theorem wsum_append (xs ys : List UInt8) : ∀ h, wsum h (xs ++ ys) = wsum h xs + wsum (after h xs.length) ys := by
  induction xs with
  | nil => intro h; simp [wsum, after]
  | cons b r ih =>
    intro h
    have e : after h (b :: r).length = after (!h) r.length := by rw [List.length_cons, after_succ]; unfold after; split <;> simp
    rw [e]
    cases h
    · simp only [List.cons_append, wsum, ih]; simp only [Bool.not_false]; omega
    · simp only [List.cons_append, wsum, ih]; simp only [Bool.not_true]; omega
theorem wsum_le (xs : List UInt8) : ∀ h, wsum h xs ≤ 65280 * xs.length := by
  induction xs with
  | nil => intro h; simp [wsum]
  | cons b r ih =>
    intro h
    have := b.toNat_lt
    cases h
    · have := ih true; simp only [wsum, List.length_cons]; omega
    · have := ih false; simp only [wsum, List.length_cons]; omega
theorem wsum_snoc (xs : List UInt8) (b : UInt8) (h : Bool) : wsum h (xs ++ [b]) = wsum h xs + (if after h xs.length then b.toNat * 256 else b.toNat) := by
  rw [wsum_append]
  cases after h xs.length <;> simp [wsum]

/-- Is a byte behind l a high one? -/
def hib (l : List UInt8) : Bool := after true l.length
theorem hib_snoc (l : List UInt8) (b : UInt8) : hib (l ++ [b]) = !(hib l) := by
  unfold hib; rw [List.length_append]; exact after_succ true l.length
theorem wsum_hib (l : List UInt8) (b : UInt8) : wsum true (l ++ [b]) = wsum true l + (if hib l then b.toNat * 256 else b.toNat) := wsum_snoc l b true
theorem take_snoc {α : Type} (l : List α) (k : Nat) (h : k < l.length) : l.take (k + 1) = l.take k ++ [l[k]] := by
  rw [List.take_succ_eq_append_getElem h]
theorem flat_snoc (ps : List (List UInt8)) (k : Nat) (h : k < ps.length) : (ps.take (k + 1)).flatten = (ps.take k).flatten ++ ps[k] := by
  rw [take_snoc ps k h, List.flatten_append, List.flatten_cons, List.flatten_nil, List.append_nil]
theorem flat_le (ps : List (List UInt8)) (k : Nat) : (ps.take k).flatten.length ≤ ps.flatten.length := by
  have h : ps.flatten = (ps.take k).flatten ++ (ps.drop k).flatten := by rw [← List.flatten_append, List.take_append_drop]
  rw [h, List.length_append]; omega
theorem wsum_take_le (xs : List UInt8) (k n : Nat) (h : xs.length ≤ n) : wsum true (xs.take k) ≤ 65280 * n := by
  have h1 := wsum_le (xs.take k) true
  have h2 := List.length_take_le k xs
  have h3 : (xs.take k).length ≤ n := by have := List.length_take_le' k xs; omega
  omega

theorem wsum_zero (l : List UInt8) : wsum true (l ++ [0]) = wsum true l := by rw [wsum_hib]; split <;> simp
theorem hib_even (l : List UInt8) (h : l.length % 2 = 0) : hib l = true := by unfold hib after; rw [if_pos h]
theorem hib_odd (l : List UInt8) (h : l.length % 2 = 1) : hib l = false := by unfold hib after; rw [if_neg (by omega)]; rfl
theorem wsum_two (l : List UInt8) (k : Nat) (hk : k % 2 = 0) (h1 : k + 1 < l.length) : wsum true (l.take (k + 2)) = wsum true (l.take k) + 256 * (l[k]'(by omega)).toNat + l[k + 1].toNat := by
  rw [show k + 2 = (k + 1) + 1 from rfl, take_snoc l (k + 1) h1, wsum_hib, take_snoc l k (by omega), wsum_hib]
  have e1 : (l.take k).length = k := by rw [List.length_take]; omega
  rw [hib_even _ (by rw [e1]; exact hk), hib_odd _ (by rw [List.length_append, e1]; simp; omega)]
  simp only [if_true, if_false, Bool.false_eq_true]
  omega

/-! ### Update -/
def upd1 (c : Nat) (p : Nat × Nat) : Nat := 65535 - fold16 ((65535 - c) + (65535 - p.1) + p.2)
def upd (c : Nat) (l : List (Nat × Nat)) : Nat := l.foldl upd1 c
theorem upd1_le (c : Nat) (p : Nat × Nat) : upd1 c p ≤ 65535 := by unfold upd1; omega
theorem upd_le {c : Nat} (h : c ≤ 65535) : ∀ l, upd c l ≤ 65535
  | [] => h
  | p :: l => upd_le (upd1_le c p) l
theorem upd_snoc (c : Nat) (l : List (Nat × Nat)) (p : Nat × Nat) : upd c (l ++ [p]) = upd1 (upd c l) p := by unfold upd; rw [List.foldl_append]; rfl

/-! ### CRC-32 -/
def crc1 (r : Nat) : Nat := if r % 2 = 1 then (r / 2) ^^^ 3988292384 else r / 2
def crcN : Nat → Nat → Nat
  | 0, r => r
  | k + 1, r => crc1 (crcN k r)
def crcB (r : Nat) (b : UInt8) : Nat := crcN 8 (r ^^^ b.toNat)
def crcL (r : Nat) (l : List UInt8) : Nat := l.foldl crcB r
def crc (l : List UInt8) : Nat := 4294967295 - crcL 4294967295 l
theorem xor_lt32 {a b : Nat} (ha : a < 4294967296) (hb : b < 4294967296) : a ^^^ b < 4294967296 := Nat.xor_lt_two_pow (n := 32) ha hb
theorem crc1_lt {r : Nat} (h : r < 4294967296) : crc1 r < 4294967296 := by
  unfold crc1; split
  · exact xor_lt32 (by omega) (by omega)
  · omega
theorem crcN_lt {r : Nat} (h : r < 4294967296) : ∀ k, crcN k r < 4294967296
  | 0 => h
  | k + 1 => crc1_lt (crcN_lt h k)
theorem crcB_lt {r : Nat} (h : r < 4294967296) (b : UInt8) : crcB r b < 4294967296 := crcN_lt (xor_lt32 h (by have := b.toNat_lt; omega)) 8
theorem crcL_lt {r : Nat} (h : r < 4294967296) : ∀ l, crcL r l < 4294967296
  | [] => h
  | b :: l => crcL_lt (crcB_lt h b) l
theorem crcL_snoc (r : Nat) (l : List UInt8) (b : UInt8) : crcL r (l ++ [b]) = crcB (crcL r l) b := by unfold crcL; rw [List.foldl_append]; rfl
theorem crc_lt (l : List UInt8) : crc l < 4294967296 := by unfold crc; omega

end Go.Proofs.Ytkgkbmiacomhdaa
