/- The plain law of frames: bytes of numbers, frames of messages, what can be read back. -/
import Derived.Test.YtbhdjalpkecbeaaSumPure
namespace Go.Proofs.Ytbhdjalpkecbeaa
set_option linter.unusedVariables false
set_option linter.unusedSimpArgs false

/-- A number's bytes, the highest first. -/
def be : Nat → Nat → List UInt8
  | 0, _ => []
  | k + 1, n => UInt8.ofNat (n / 256 ^ k) :: be k n
theorem be_len (k n : Nat) : (be k n).length = k := by
  induction k with
  | zero => rfl
  | succ k ih => simp [be, ih]
/-- The number of bytes. -/
def valFrom (a : Nat) (l : List UInt8) : Nat := l.foldl (fun n b => n * 256 + b.toNat) a
def val (l : List UInt8) : Nat := valFrom 0 l
theorem valFrom_eq (l : List UInt8) : ∀ a, valFrom a l = a * 256 ^ l.length + val l := by
  induction l with
  | nil => intro a; simp [valFrom, val]
  | cons b r ih =>
    intro a
    have h1 : valFrom a (b :: r) = valFrom (a * 256 + b.toNat) r := rfl
    have h2 : val (b :: r) = valFrom (0 * 256 + b.toNat) r := rfl
    rw [h1, h2, ih, ih (0 * 256 + b.toNat), List.length_cons, Nat.pow_succ]
    simp only [Nat.zero_mul, Nat.zero_add, Nat.add_mul]
    have : a * 256 * 256 ^ r.length = a * (256 ^ r.length * 256) := by rw [Nat.mul_assoc, Nat.mul_comm 256]
    omega
theorem val_lt (l : List UInt8) : val l < 256 ^ l.length := by
  induction l with
  | nil => simp [val, valFrom]
  | cons b r ih =>
    have h1 : val (b :: r) = valFrom (0 * 256 + b.toNat) r := rfl
    rw [h1, valFrom_eq, List.length_cons, Nat.pow_succ]
    have := b.toNat_lt
    have h2 : b.toNat * 256 ^ r.length ≤ 255 * 256 ^ r.length := Nat.mul_le_mul_right _ (by omega)
    simp only [Nat.zero_mul, Nat.zero_add]
    omega
theorem val_snoc (l : List UInt8) (b : UInt8) : val (l ++ [b]) = val l * 256 + b.toNat := by
  unfold val valFrom; rw [List.foldl_append]; rfl
theorem val_be (k n : Nat) : val (be k n) = n % 256 ^ k := by
  induction k with
  | zero => simp [be, val, valFrom, Nat.mod_one]
  | succ k ih =>
    have h1 : val (be (k + 1) n) = valFrom (0 * 256 + (UInt8.ofNat (n / 256 ^ k)).toNat) (be k n) := rfl
    have h2 : n % 256 ^ (k + 1) = n % 256 ^ k + 256 ^ k * (n / 256 ^ k % 256) := by rw [Nat.pow_succ]; exact Nat.mod_mul
    rw [h1, valFrom_eq, ih, be_len, UInt8.toNat_ofNat', h2]
    simp only [Nat.zero_mul, Nat.zero_add]
    rw [Nat.mul_comm, Nat.add_comm]

/-- A message. -/
structure Mg where
  kind : Int
  nums : List Int
  data : List UInt8
/-- An int64 as a uint64. -/
def u64 (n : Int) : Nat := (n % 18446744073709551616).toNat
theorem u64_lt (n : Int) : u64 n < 18446744073709551616 := by unfold u64; omega
def I64 (n : Int) : Prop := -9223372036854775808 ≤ n ∧ n ≤ 9223372036854775807
/-- A uint64 as an int64. -/
def s64 (n : Nat) : Int := ((n : Int) + 9223372036854775808) % 18446744073709551616 - 9223372036854775808
theorem s64_u64 (n : Int) (h : I64 n) : s64 (u64 n) = n := by unfold s64 u64; unfold I64 at h; omega
theorem s64_I64 (n : Nat) : I64 (s64 n) := by unfold s64 I64; omega
def Good (m : Mg) : Prop := (0 ≤ m.kind ∧ m.kind ≤ 255) ∧ m.nums.length ≤ 40 ∧ m.data.length ≤ 65536
def goodB (m : Mg) : Bool := decide (0 ≤ m.kind ∧ m.kind ≤ 255) && decide (m.nums.length ≤ 40) && decide (m.data.length ≤ 65536)
theorem goodB_iff (m : Mg) : goodB m = true ↔ Good m := by unfold goodB Good; simp [and_assoc]
def nbytes (l : List Int) : List UInt8 := l.flatMap fun n => be 8 (u64 n)
theorem nbytes_len (l : List Int) : (nbytes l).length = 8 * l.length := by
  induction l with
  | nil => rfl
  | cons n r ih => unfold nbytes at *; rw [List.flatMap_cons, List.length_append, be_len, ih, List.length_cons]; omega
theorem nbytes_snoc (l : List Int) (n : Int) : nbytes (l ++ [n]) = nbytes l ++ be 8 (u64 n) := by unfold nbytes; rw [List.flatMap_append]; simp
def hd (m : Mg) : List UInt8 := [84, 80, 1, UInt8.ofNat m.kind.toNat, UInt8.ofNat m.nums.length]
def body (m : Mg) : List UInt8 := hd m ++ nbytes m.nums ++ be 4 m.data.length ++ m.data
def frame (m : Mg) : List UInt8 := body m ++ be 4 (crc (body m))
theorem body_len (m : Mg) : (body m).length = 9 + 8 * m.nums.length + m.data.length := by
  unfold body hd; simp only [List.length_append, nbytes_len, be_len, List.length_cons, List.length_nil]; omega
theorem frame_len (m : Mg) : (frame m).length = 13 + 8 * m.nums.length + m.data.length := by
  unfold frame; rw [List.length_append, be_len, body_len]; omega

/-! ### reading -/
/-- The reader: what is left; is it broken? -/
abbrev Rs := List UInt8 × Bool
def numR (k : Nat) (s : Rs) : Nat × Rs := if s.1.length < k then (0, ([], true)) else (val (s.1.take k), (s.1.drop k, s.2))
def numsR : Nat → Rs → List Int × Rs
  | 0, s => ([], s)
  | c + 1, s => let r := numR 8 s; if r.2.2 then ([s64 r.1], r.2) else let q := numsR c r.2; (s64 r.1 :: q.1, q.2)
theorem val_take_lt (k : Nat) (l : List UInt8) (h : k ≤ 8) : val (l.take k) < 18446744073709551616 := by
  have h1 := val_lt (l.take k)
  have h2 : (l.take k).length ≤ 8 := by rw [List.length_take]; omega
  have h3 : 256 ^ (l.take k).length ≤ 256 ^ 8 := Nat.pow_le_pow_right (by omega) h2
  have h4 : (256 : Nat) ^ 8 = 18446744073709551616 := by decide
  omega
theorem numR_lt (k : Nat) (s : Rs) (h : k ≤ 8) : (numR k s).1 < 18446744073709551616 := by
  unfold numR; split
  · show 0 < _; omega
  · exact val_take_lt k s.1 h
theorem numR_len (k : Nat) (s : Rs) : (numR k s).2.1.length ≤ s.1.length := by
  unfold numR; split
  · simp
  · simp
/-- What a good frame reads as. -/
theorem numR_be (k n : Nat) (r : List UInt8) (hn : n < 256 ^ k) : numR k (be k n ++ r, false) = (n, (r, false)) := by
  unfold numR
  rw [if_neg (by simp [be_len])]
  have e1 : (be k n ++ r).take k = be k n := by rw [List.take_append_of_le_length (by simp [be_len]), List.take_of_length_le (by simp [be_len])]
  have e2 : (be k n ++ r).drop k = r := by rw [List.drop_append_of_le_length (by simp [be_len]), List.drop_of_length_le (by simp [be_len]), List.nil_append]
  simp only [e1, e2, val_be, Nat.mod_eq_of_lt hn]
theorem numsR_good (l : List Int) (hl : ∀ n ∈ l, I64 n) (r : List UInt8) : numsR l.length (nbytes l ++ r, false) = (l, (r, false)) := by
  induction l with
  | nil => rfl
  | cons n q ih =>
    have e : nbytes (n :: q) ++ r = be 8 (u64 n) ++ (nbytes q ++ r) := by unfold nbytes; rw [List.flatMap_cons, List.append_assoc]
    have h1 := numR_be 8 (u64 n) (nbytes q ++ r) (by have := u64_lt n; have h4 : (256 : Nat) ^ 8 = 18446744073709551616 := (by decide); omega)
    rw [e, List.length_cons]
    simp only [numsR, h1, ih (fun n hn => hl n (by simp [hn])), s64_u64 n (hl n (by simp))]
    rfl

/-- What bytes may be the frame of. -/
def IsFrame (b : List UInt8) (m : Mg) : Prop := Good m ∧ (∀ n ∈ m.nums, I64 n) ∧ frame m = b
/-- The candidate, as Parse reads it: the kind, the numbers, the data; do they fit? -/
structure Cand where
  kind : Int
  nums : List Int
  data : List UInt8
  fits : Bool
def cand (b : List UInt8) : Cand :=
  let s0 : Rs := ((b.drop 3).take (b.length - 4 - 3), false)
  let k := numR 1 s0
  let c := numR 1 k.2
  let ns := numsR c.1 c.2
  let z := numR 4 ns.2
  { kind := k.1, nums := ns.1, data := z.2.1, fits := !z.2.2 && decide (z.1 = z.2.1.length) }
def candOf (r1 : Nat × Rs) (ns : List Int × Rs) (z : Nat × Rs) : Cand := { kind := r1.1, nums := ns.1, data := z.2.1, fits := !z.2.2 && decide (z.1 = z.2.1.length) }
theorem cand_eq (b : List UInt8) : cand b = candOf (numR 1 ((b.drop 3).take (b.length - 4 - 3), false)) (numsR (numR 1 (numR 1 ((b.drop 3).take (b.length - 4 - 3), false)).2).1 (numR 1 (numR 1 ((b.drop 3).take (b.length - 4 - 3), false)).2).2)
    (numR 4 (numsR (numR 1 (numR 1 ((b.drop 3).take (b.length - 4 - 3), false)).2).1 (numR 1 (numR 1 ((b.drop 3).take (b.length - 4 - 3), false)).2).2).2) := rfl
theorem numR_lt256 (s : Rs) : (numR 1 s).1 < 256 := by
  unfold numR; split
  · show 0 < _; omega
  · have h1 := val_lt (s.1.take 1)
    have h2 : (s.1.take 1).length ≤ 1 := by rw [List.length_take]; omega
    have h3 : 256 ^ (s.1.take 1).length ≤ 256 ^ 1 := Nat.pow_le_pow_right (by omega) h2
    show val (s.1.take 1) < 256
    omega
theorem numR_lt32 (s : Rs) : (numR 4 s).1 < 4294967296 := by
  unfold numR; split
  · show 0 < _; omega
  · have h1 := val_lt (s.1.take 4)
    have h2 : (s.1.take 4).length ≤ 4 := by rw [List.length_take]; omega
    have h3 : 256 ^ (s.1.take 4).length ≤ 256 ^ 4 := Nat.pow_le_pow_right (by omega) h2
    have h4 : (256 : Nat) ^ 4 = 4294967296 := by decide
    show val (s.1.take 4) < _
    omega
theorem numsR_I64 (n : Nat) : ∀ s, ∀ x ∈ (numsR n s).1, I64 x := by
  induction n with
  | zero => intro s x hx; simp [numsR] at hx
  | succ n ih =>
    intro s x hx
    simp only [numsR] at hx
    split at hx
    · simp at hx; rw [hx]; exact s64_I64 _
    · simp at hx
      rcases hx with h | h
      · rw [h]; exact s64_I64 _
      · exact ih _ x h
theorem numsR_len (n : Nat) : ∀ s, (numsR n s).2.1.length ≤ s.1.length := by
  induction n with
  | zero => intro s; simp [numsR]
  | succ n ih =>
    intro s
    simp only [numsR]
    split
    · exact numR_len 8 s
    · exact Nat.le_trans (ih _) (numR_len 8 s)
theorem numsR_num (n : Nat) : ∀ s, (numsR n s).1.length ≤ n := by
  induction n with
  | zero => intro s; simp [numsR]
  | succ n ih =>
    intro s
    simp only [numsR]
    split
    · simp
    · simp; exact ih _
theorem be_one (x : Nat) : be 1 x = [UInt8.ofNat x] := by simp [be]
theorem cand_good (b : List UInt8) (m : Mg) (h : IsFrame b m) : 7 ≤ b.length ∧ b.take 3 = [84, 80, 1] ∧ cand b = { kind := m.kind, nums := m.nums, data := m.data, fits := true } := by
  obtain ⟨⟨⟨g1, g2⟩, g3, g4⟩, hI, hf⟩ := h
  have hlen := frame_len m
  rw [hf] at hlen
  have hb : b = [84, 80, 1] ++ (be 1 m.kind.toNat ++ (be 1 m.nums.length ++ (nbytes m.nums ++ (be 4 m.data.length ++ m.data)))) ++ be 4 (crc (body m)) := by
    rw [← hf]; unfold frame body hd; rw [be_one, be_one]; simp
  have hbl : (be 1 m.kind.toNat ++ (be 1 m.nums.length ++ (nbytes m.nums ++ (be 4 m.data.length ++ m.data)))).length = b.length - 4 - 3 := by
    simp only [List.length_append, be_len, nbytes_len]; omega
  refine ⟨by omega, by rw [hb]; simp, ?_⟩
  have hs : (b.drop 3).take (b.length - 4 - 3) = be 1 m.kind.toNat ++ (be 1 m.nums.length ++ (nbytes m.nums ++ (be 4 m.data.length ++ m.data))) := by
    rw [← hbl, hb, List.append_assoc, List.drop_append_of_le_length (by simp), List.drop_of_length_le (by simp), List.nil_append, List.take_append_of_le_length (by simp), List.take_of_length_le (by simp)]
  unfold cand
  simp only [hs, numR_be 1 m.kind.toNat _ (by omega), numR_be 1 m.nums.length _ (by omega), numsR_good m.nums hI, numR_be 4 m.data.length _ (by omega)]
  simp
  omega
theorem cand_is {b : List UInt8} {m : Mg} {k1 z : Nat} {ns : List Int} {rest : List UInt8} {br : Bool} {s1 s3 : Rs} (hm : IsFrame b m) (h : cand b = candOf (k1, s1) (ns, s3) (z, rest, br)) :
    m = { kind := k1, nums := ns, data := rest } ∧ br = false ∧ z = rest.length := by
  have h2 := (cand_good b m hm).2.2
  rw [h] at h2
  unfold candOf at h2
  injection h2 with e1 e2 e3 e4
  obtain ⟨a1, a2, a3⟩ := m
  simp only at e1 e2 e3 e4
  subst e1 e2 e3
  simp at e4
  exact ⟨rfl, e4.1, e4.2⟩
theorem no_fits {b : List UInt8} {k1 z : Nat} {ns : List Int} {rest : List UInt8} {br : Bool} {s1 s3 : Rs} (h : cand b = candOf (k1, s1) (ns, s3) (z, rest, br)) (hbad : br = true ∨ z ≠ rest.length) : ∀ m, ¬ IsFrame b m := fun m hm => by
  obtain ⟨_, h1, h2⟩ := cand_is hm h
  rcases hbad with h' | h'
  · rw [h1] at h'; cases h'
  · exact h' h2
theorem frame_inj (m m' : Mg) (h : IsFrame (frame m) m) (h' : IsFrame (frame m) m') : m = m' := by
  have h1 := (cand_good _ _ h).2.2
  have h2 := (cand_good _ _ h').2.2
  rw [h1] at h2
  injection h2 with e1 e2 e3
  cases m; cases m'; simp at *; exact ⟨e1, e2, e3⟩

/-- The message of bytes. -/
noncomputable def parse (b : List UInt8) : Option Mg := open Classical in if h : ∃ m, IsFrame b m then some h.choose else none
theorem parse_some {b : List UInt8} {m : Mg} : parse b = some m ↔ IsFrame b m := by
  unfold parse
  constructor
  · intro h
    split at h
    · rename_i hex
      injection h with h
      rw [← h]
      exact hex.choose_spec
    · cases h
  · intro h
    have hex : ∃ m, IsFrame b m := ⟨m, h⟩
    rw [dif_pos hex]
    congr 1
    have hs := hex.choose_spec
    have hf := h.2.2
    subst hf
    exact (frame_inj _ _ h hs).symm
theorem parse_none {b : List UInt8} : parse b = none ↔ ∀ m, ¬ IsFrame b m := by
  constructor
  · intro h m hm
    rw [parse_some.2 hm] at h
    cases h
  · intro h
    cases hp : parse b with
    | none => rfl
    | some m => exact absurd (parse_some.1 hp) (h m)
end Go.Proofs.Ytbhdjalpkecbeaa
