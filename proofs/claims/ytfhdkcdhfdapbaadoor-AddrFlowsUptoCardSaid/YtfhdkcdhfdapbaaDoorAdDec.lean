/- The walks of Decimal, of the document's Byte and Text. -/
import Derived.Test.YtfhdkcdhfdapbaaDoorAdLaw
namespace Go.Proofs.YtfhdkcdhfdapbaaDoor
set_option linter.unusedVariables false
set_option linter.unusedSimpArgs false
open Go.RowKit Go.Sort

def DecI (n m : Nat) (l : List UInt8) : Prop := (l = [] ∧ m = n) ∨ (l ≠ [] ∧ (if m = 0 then [] else Lib.decDigits m) ++ l = Lib.decDigits n)
theorem decI_step {n m : Nat} {l : List UInt8} (h : DecI n m l) (hm : l = [] ∨ 0 < m) : DecI n (m / 10) (UInt8.ofNat (48 + m % 10) :: l) := by
  refine .inr ⟨by simp, ?_⟩
  have key : (if m / 10 = 0 then [] else Lib.decDigits (m / 10)) ++ [UInt8.ofNat (48 + m % 10)] = Lib.decDigits m := by
    by_cases h10 : m < 10
    · rw [if_pos (by omega), Lib.decDigits_one h10, Nat.mod_eq_of_lt h10]
      rfl
    · have e : Lib.decDigits m = Lib.decDigits (m / 10) ++ [UInt8.ofNat (48 + m % 10)] := by rw [Lib.decDigits, dif_neg h10]
      rw [if_neg (by omega), e]
  rw [show (UInt8.ofNat (48 + m % 10) :: l) = [UInt8.ofNat (48 + m % 10)] ++ l from rfl, ← List.append_assoc, key]
  rcases h with ⟨rfl, rfl⟩ | ⟨hl, h⟩
  · rw [List.append_nil]
  · rcases hm with rfl | hm
    · exact absurd rfl hl
    · rw [if_neg (by omega)] at h
      exact h
theorem decI_len {n m : Nat} {l : List UInt8} (h : DecI n m l) (hn : n < 256) : l.length ≤ 3 := by
  rcases h with ⟨rfl, _⟩ | ⟨_, h⟩
  · simp
  · have h1 := congrArg List.length h
    rw [List.length_append] at h1
    have h2 := numL_len n hn
    unfold numL at h2
    omega
theorem str_size (l : List UInt8) : (strOf l).size = l.length := by simp [ByteArray.size]
theorem cat_str (a b : List UInt8) : strOf a ++ strOf b = strOf (a ++ b) := by
  apply ByteArray.ext
  simp [ByteArray.data_append]
def measD (v x : Value) : Nat := (intOf x).toNat + (match v with | .string s => if s.size = 0 then 1 else 0 | _ => 0)
theorem measD_eq (l : List UInt8) (m : Nat) : measD (.string (strOf l)) (.int .i64 (m : Int)) = m + (if l.length = 0 then 1 else 0) := by
  unfold measD
  simp [intOf, strOf, ByteArray.size]
set_option maxRecDepth 100000 in
set_option maxHeartbeats 1600000 in
theorem decimal_any (n : Nat) (w : World) (h : n < 256) : Calls Tryd.prog 39 #[.int .i64 (n : Int)] w fun e w' => e = .returned (.string (strOf (numL n))) ∧ Below w.heap.size w w' := by
  have f1 : ((n : Int) == -9223372036854775808) = false := beq_eq_false_iff_ne.2 (by omega)
  have f2 : decide ((n : Int) < 0) = false := decide_eq_false (by omega)
  go_enter Tryd.func39, Tryd.ntmps39
  go_wp2_with fail
  go_loopw [0, 3] (fun x v wr => ∃ (m : Nat) (l : List UInt8), m ≤ n ∧ x = .int .i64 (m : Int) ∧ v = .string (strOf l) ∧ Hid (DecI n m l) ∧ Hid (Below w.heap.size w wr)) (fun x v _ => measD v x)
  case atStart => exact ⟨n, [], Nat.le_refl _, rfl, rfl, .inl ⟨rfl, rfl⟩, Below.refl _ _⟩
  case round =>
    obtain ⟨m, l, hm, rfl, rfl, HD, HB⟩ := hrel
    clear f1 f2
    have hdl := HB.out.size
    by_cases hgo : l = [] ∨ 0 < m
    · have HS := Lib.hid (decI_step HD.out hgo)
      have hcn : (48 + (m : Int) % 10) = ((UInt8.ofNat (48 + m % 10)).toNat : Int) := by
        rw [UInt8.toNat_ofNat']
        omega
      obtain ⟨c, hc⟩ : ∃ c, UInt8.ofNat (48 + m % 10) = c := ⟨_, rfl⟩
      rw [hc] at HS hcn
      have hal : Below wr.heap.size wr (wr.alloc (.cells #[.int .u8 (48 + (m : Int) % 10)] 5)) := (Below.refl _ _).alloc (Nat.le_refl _) _
      have hR : RB (wr.alloc (.cells #[.int .u8 (48 + (m : Int) % 10)] 5)) (some ⟨wr.heap.size, 0, none⟩) [c] := by
        rw [hcn]
        exact rb_new wr 5 [c] rfl
      have s1 := run_str (P := Tryd.prog) _ _ _ _ Tryd.underlying78 Tryd.underlying5 Tryd.underlying9 (some ⟨wr.heap.size, 0, none⟩) 1 1 [c] hR rfl
      have hbw := Lib.hid (below_call HB.out hal)
      have hm256 : m < 256 := by omega
      have hl3 := decI_len HD.out h
      have hs1 := str_size l
      have hs2 : (bs [c]).size = 1 := rfl
      have hsz : 1 + l.length ≤ 9223372036854775807 := by omega
      have hmd : m % 10 < 10 := Nat.mod_lt _ (by omega)
      have HMS : Hid (m / 10 + (if (c :: l).length = 0 then 1 else 0) < m + (if l.length = 0 then 1 else 0)) := by
        show _ < _
        have e1 : (c :: l).length ≠ 0 := by simp
        rw [if_neg e1]
        rcases hgo with rfl | h0
        · simp only [List.length_nil, if_true]; omega
        · omega
      have HMLE : Hid (m / 10 ≤ n) := by show _ ≤ _; omega
      have w2 : Int.tdiv (m : Int) 10 = ((m / 10 : Nat) : Int) := by rw [Int.tdiv_eq_ediv_of_nonneg (by omega)]; omega
      have hq25 : m / 10 ≤ 25 := by omega
      generalize m / 10 = q at *
      clear hR hc hcn
      by_cases hl : l = []
      · subst hl
        clear hgo
        go_wp2_with fail
        go_roundw
        case rel => exact ⟨q, c :: [], HMLE.out, rfl, rfl, HS, hbw⟩
        case measure =>
          have h1 := HMS.out
          rw [measD_eq [] m]
          exact Nat.lt_of_le_of_lt (Nat.le_of_eq (measD_eq [c] q)) h1
      · have hm0 : 0 < m := by rcases hgo with h | h; exact absurd h hl; exact h
        have d0 : (l == []) = false := beq_eq_false_iff_ne.2 hl
        have d1 : decide ((0 : Int) < (m : Int)) = true := decide_eq_true (by omega)
        have d2 : decide (0 < m) = true := decide_eq_true hm0
        clear hgo hl hm0
        go_wp2_with fail
        go_roundw
        case rel => exact ⟨q, c :: l, HMLE.out, rfl, congrArg Value.string (cat_str [c] l), HS, hbw⟩
        case measure =>
          have h1 := HMS.out
          rw [measD_eq l m]
          exact Nat.lt_of_le_of_lt (Nat.le_of_eq (Eq.trans (congrArg (fun z => measD z _) (congrArg Value.string (cat_str [c] l))) (measD_eq (c :: l) q))) h1
    · have hl : l ≠ [] := fun h => hgo (.inl h)
      have hm0 : m = 0 := by have := fun h => hgo (.inr h); omega
      have d0 : (l == []) = false := beq_eq_false_iff_ne.2 hl
      subst hm0
      have HE : Hid (l = numL n) := by
        rcases HD.out with ⟨h, _⟩ | ⟨_, h⟩
        · exact absurd h hl
        · rw [if_pos rfl] at h
          exact h
      clear hgo hl
      go_wp2_with fail
      go_ret
      exact ⟨by rw [← HE.out]; rfl, HB.out⟩
theorem rbyte_0 (a : Nat) (w : World) (h : a < 4294967296) : Calls Tryd.prog 40 #[.int .u32 (a : Int), .int .i64 0] w fun e w' => e = .returned (.int .i64 ((adB a 0 : Nat) : Int)) ∧ w' = w := by
  have e : ((adB a 0 : Nat) : Int) = (a : Int) / 16777216 % 256 := by show ((a / 16777216 : Nat) : Int) = _; omega
  go_enter Tryd.func40, Tryd.ntmps40
  go_wp2
  go_ret
  exact ⟨by rw [e]; rfl, rfl⟩
theorem rbyte_1 (a : Nat) (w : World) (h : a < 4294967296) : Calls Tryd.prog 40 #[.int .u32 (a : Int), .int .i64 1] w fun e w' => e = .returned (.int .i64 ((adB a 1 : Nat) : Int)) ∧ w' = w := by
  have e : ((adB a 1 : Nat) : Int) = (a : Int) / 65536 % 256 := by show ((a / 65536 % 256 : Nat) : Int) = _; omega
  go_enter Tryd.func40, Tryd.ntmps40
  go_wp2
  go_ret
  exact ⟨by rw [e]; rfl, rfl⟩
theorem rbyte_2 (a : Nat) (w : World) (h : a < 4294967296) : Calls Tryd.prog 40 #[.int .u32 (a : Int), .int .i64 2] w fun e w' => e = .returned (.int .i64 ((adB a 2 : Nat) : Int)) ∧ w' = w := by
  have e : ((adB a 2 : Nat) : Int) = (a : Int) / 256 % 256 := by show ((a / 256 % 256 : Nat) : Int) = _; omega
  go_enter Tryd.func40, Tryd.ntmps40
  go_wp2
  go_ret
  exact ⟨by rw [e]; rfl, rfl⟩
theorem rbyte_3 (a : Nat) (w : World) (h : a < 4294967296) : Calls Tryd.prog 40 #[.int .u32 (a : Int), .int .i64 3] w fun e w' => e = .returned (.int .i64 ((adB a 3 : Nat) : Int)) ∧ w' = w := by
  have e : ((adB a 3 : Nat) : Int) = (a : Int) % 256 := by show ((a % 256 : Nat) : Int) = _; omega
  go_enter Tryd.func40, Tryd.ntmps40
  go_wp2
  go_ret
  exact ⟨by rw [e]; rfl, rfl⟩
/-- The text of the first k bytes. -/
def preT (a : Nat) : Nat → List UInt8
  | 0 => []
  | 1 => numL (adB a 0)
  | k + 2 => preT a (k + 1) ++ 46 :: numL (adB a (k + 1))
theorem preT_4 (a : Nat) : preT a 4 = textL a := by
  unfold textL
  rw [join_two, join_two, join_two, Lib.join_one]
  simp [preT]
theorem preT_len (a : Nat) (h : a < 4294967296) : ∀ k, k ≤ 4 → (preT a k).length ≤ 4 * k
  | 0, _ => by simp [preT]
  | 1, _ => by have := numL_len _ (adB_lt a 0 h); simp only [preT]; omega
  | k + 2, hk => by
    have h1 := preT_len a h (k + 1) (by omega)
    have := numL_len _ (adB_lt a (k + 1) h)
    simp only [preT, List.length_append, List.length_cons]
    omega
set_option maxRecDepth 100000 in
set_option maxHeartbeats 3200000 in
theorem rtext_any (a : Nat) (w : World) (h : a < 4294967296) : Calls Tryd.prog 13 #[.int .u32 (a : Int)] w fun e w' => e = .returned (.string (strOf (textL a))) ∧ Below w.heap.size w w' := by
  have HPL := Lib.hid (preT_len a h)
  go_enter Tryd.func13, Tryd.ntmps13
  go_wp2_with fail
  go_loopw [3, 4] (fun v i wr => ∃ k : Nat, k ≤ 4 ∧ i = .int .i64 (k : Int) ∧ v = .string (strOf (preT a k)) ∧ Hid (Below w.heap.size w wr)) (fun _ i _ => 4 - (intOf i).toNat)
  case atStart => exact ⟨0, Nat.zero_le _, rfl, rfl, Below.refl _ _⟩
  case round =>
    obtain ⟨k, hk, rfl, rfl, HB⟩ := hrel
    have hks : k = 0 ∨ k = 1 ∨ k = 2 ∨ k = 3 ∨ k = 4 := by omega
    rcases hks with rfl | rfl | rfl | rfl | rfl
    · have hb := adB_lt a 0 h
      have hl := HPL.out 0 (by omega)
      have hn := numL_len _ hb
      have HS := Lib.hid (show strOf (preT a 0) ++ strOf (numL (adB a 0)) = strOf (preT a 1) by rw [cat_str]; rfl)
      have hs2 := str_size (numL (adB a 0))
      have hs1 := str_size (preT a 0)
      generalize preT a 0 = l at *
      go_wp2_with fail
      (with_reducible refine (rbyte_0 a wr h).mono ?_)
      rintro e w1 ⟨rfl, rfl⟩
      have HBB := Lib.hid hb
      obtain ⟨b, hbe⟩ : ∃ b, adB a 0 = b := ⟨_, rfl⟩
      rw [hbe] at HS HBB hn hs2 ⊢
      have hsz : l.length + (numL b).length ≤ 9223372036854775807 := by omega
      clear hbe hb
      go_wp2_with fail
      (with_reducible refine (decimal_any b w1 HBB.out).mono ?_)
      rintro e w2 ⟨rfl, hb2⟩
      have HB2 := Lib.hid (below_call HB.out hb2)
      go_wp2_with fail
      rw [HS.out]
      go_roundw
      case rel => exact ⟨0 + 1, by omega, rfl, rfl, HB2⟩
      case measure => simp [intOf]
    · have hb := adB_lt a 1 h
      have hl := HPL.out 1 (by omega)
      have hn := numL_len _ hb
      have HS1 := Lib.hid (show strOf (preT a 1) ++ (⟨#[46]⟩ : ByteArray) = strOf (preT a 1 ++ [46]) from cat_str (preT a 1) [46])
      have HS := Lib.hid (show strOf (preT a 1 ++ [46]) ++ strOf (numL (adB a 1)) = strOf (preT a (1 + 1)) by rw [cat_str]; simp [preT])
      have hl2 : (preT a 1 ++ [46]).length ≤ 4 * 1 + 1 := by rw [List.length_append]; simp; exact hl
      have hsz1 : (preT a 1).length + 1 ≤ 9223372036854775807 := by omega
      generalize preT a 1 ++ [46] = l2 at *
      generalize preT a 1 = l at *
      go_wp2_with fail
      rw [HS1.out]
      have hs1 := str_size l2
      have hs2 := str_size (numL (adB a 1))
      (with_reducible refine (rbyte_1 a wr h).mono ?_)
      rintro e w1 ⟨rfl, rfl⟩
      have HBB := Lib.hid hb
      obtain ⟨b, hbe⟩ : ∃ b, adB a 1 = b := ⟨_, rfl⟩
      rw [hbe] at HS HBB hn hs2 ⊢
      have hsz : l2.length + (numL b).length ≤ 9223372036854775807 := by omega
      clear hbe hb
      go_wp2_with fail
      (with_reducible refine (decimal_any b w1 HBB.out).mono ?_)
      rintro e w2 ⟨rfl, hb2⟩
      have HB2 := Lib.hid (below_call HB.out hb2)
      go_wp2_with fail
      rw [HS.out]
      go_roundw
      case rel => exact ⟨1 + 1, by omega, rfl, rfl, HB2⟩
      case measure => simp [intOf]
    · have hb := adB_lt a 2 h
      have hl := HPL.out 2 (by omega)
      have hn := numL_len _ hb
      have HS1 := Lib.hid (show strOf (preT a 2) ++ (⟨#[46]⟩ : ByteArray) = strOf (preT a 2 ++ [46]) from cat_str (preT a 2) [46])
      have HS := Lib.hid (show strOf (preT a 2 ++ [46]) ++ strOf (numL (adB a 2)) = strOf (preT a (2 + 1)) by rw [cat_str]; simp [preT])
      have hl2 : (preT a 2 ++ [46]).length ≤ 4 * 2 + 1 := by rw [List.length_append]; simp; exact hl
      have hsz1 : (preT a 2).length + 1 ≤ 9223372036854775807 := by omega
      generalize preT a 2 ++ [46] = l2 at *
      generalize preT a 2 = l at *
      go_wp2_with fail
      rw [HS1.out]
      have hs1 := str_size l2
      have hs2 := str_size (numL (adB a 2))
      (with_reducible refine (rbyte_2 a wr h).mono ?_)
      rintro e w1 ⟨rfl, rfl⟩
      have HBB := Lib.hid hb
      obtain ⟨b, hbe⟩ : ∃ b, adB a 2 = b := ⟨_, rfl⟩
      rw [hbe] at HS HBB hn hs2 ⊢
      have hsz : l2.length + (numL b).length ≤ 9223372036854775807 := by omega
      clear hbe hb
      go_wp2_with fail
      (with_reducible refine (decimal_any b w1 HBB.out).mono ?_)
      rintro e w2 ⟨rfl, hb2⟩
      have HB2 := Lib.hid (below_call HB.out hb2)
      go_wp2_with fail
      rw [HS.out]
      go_roundw
      case rel => exact ⟨2 + 1, by omega, rfl, rfl, HB2⟩
      case measure => simp [intOf]
    · have hb := adB_lt a 3 h
      have hl := HPL.out 3 (by omega)
      have hn := numL_len _ hb
      have HS1 := Lib.hid (show strOf (preT a 3) ++ (⟨#[46]⟩ : ByteArray) = strOf (preT a 3 ++ [46]) from cat_str (preT a 3) [46])
      have HS := Lib.hid (show strOf (preT a 3 ++ [46]) ++ strOf (numL (adB a 3)) = strOf (preT a (3 + 1)) by rw [cat_str]; simp [preT])
      have hl2 : (preT a 3 ++ [46]).length ≤ 4 * 3 + 1 := by rw [List.length_append]; simp; exact hl
      have hsz1 : (preT a 3).length + 1 ≤ 9223372036854775807 := by omega
      generalize preT a 3 ++ [46] = l2 at *
      generalize preT a 3 = l at *
      go_wp2_with fail
      rw [HS1.out]
      have hs1 := str_size l2
      have hs2 := str_size (numL (adB a 3))
      (with_reducible refine (rbyte_3 a wr h).mono ?_)
      rintro e w1 ⟨rfl, rfl⟩
      have HBB := Lib.hid hb
      obtain ⟨b, hbe⟩ : ∃ b, adB a 3 = b := ⟨_, rfl⟩
      rw [hbe] at HS HBB hn hs2 ⊢
      have hsz : l2.length + (numL b).length ≤ 9223372036854775807 := by omega
      clear hbe hb
      go_wp2_with fail
      (with_reducible refine (decimal_any b w1 HBB.out).mono ?_)
      rintro e w2 ⟨rfl, hb2⟩
      have HB2 := Lib.hid (below_call HB.out hb2)
      go_wp2_with fail
      rw [HS.out]
      go_roundw
      case rel => exact ⟨3 + 1, by omega, rfl, rfl, HB2⟩
      case measure => simp [intOf]
    · have HT := Lib.hid (preT_4 a)
      go_wp2_with fail
      go_ret
      exact ⟨by rw [← HT.out]; rfl, HB.out⟩
end Go.Proofs.YtfhdkcdhfdapbaaDoor
