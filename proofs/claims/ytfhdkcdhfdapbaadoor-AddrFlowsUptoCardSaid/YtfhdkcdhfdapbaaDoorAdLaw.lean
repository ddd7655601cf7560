/- Plain law: texts and addresses are one another's way back. -/
import Derived.Test.YtfhdkcdhfdapbaaDoorAdParse
namespace Go.Proofs.YtfhdkcdhfdapbaaDoor
set_option linter.unusedVariables false
set_option linter.unusedSimpArgs false

/-- A text cut at its points. -/
def sp : List UInt8 → List (List UInt8)
  | [] => [[]]
  | c :: r => if c = 46 then [] :: sp r else match sp r with
    | h :: t => (c :: h) :: t
    | [] => [[c]]
theorem sp_ne (s : List UInt8) : ∃ h t, sp s = h :: t := by
  induction s with
  | nil => exact ⟨[], [], rfl⟩
  | cons c r ih =>
    obtain ⟨h, t, e⟩ := ih
    unfold sp
    split
    · exact ⟨_, _, rfl⟩
    · rw [e]; exact ⟨_, _, rfl⟩
theorem splitK_sp (s : List UInt8) : Lib.splitK [46] 0 (s.count 46) s = sp s := by
  induction s with
  | nil => rfl
  | cons c r ih =>
    unfold sp
    by_cases hc : c = 46
    · subst hc
      rw [if_pos rfl, List.count_cons_self]
      unfold Lib.splitK
      have hi : Lib.index (46 :: r) [46] = 0 := by rw [Lib.index_one]; simp [Lib.indexByte]
      rw [hi, if_neg (by decide)]
      simpa using ih
    · rw [if_neg hc, List.count_cons_of_ne hc]
      by_cases h0 : r.count 46 = 0
      · rw [h0] at ih ⊢
        rw [← ih]
        rfl
      · obtain ⟨k, hk⟩ : ∃ k, r.count 46 = k + 1 := ⟨r.count 46 - 1, by omega⟩
        rw [hk] at ih ⊢
        have hmem : (46 : UInt8) ∈ r := List.count_pos_iff.1 (by omega)
        have hne : Lib.indexByte r 46 ≠ -1 := fun h => by
          obtain ⟨j, hj⟩ := List.getElem?_of_mem hmem
          exact Lib.indexByte_none h j hj
        have hge := Lib.indexByte_ge r 46
        obtain ⟨i, hi⟩ := Int.eq_ofNat_of_zero_le (show 0 ≤ Lib.indexByte r 46 by omega)
        have h1 : Lib.index r [46] = (i : Int) := by rw [Lib.index_one, hi]
        have h2 : Lib.index (c :: r) [46] = ((i + 1 : Nat) : Int) := by
          rw [Lib.index_one]
          simp only [Lib.indexByte]
          rw [if_neg (by simpa using hc), hi, if_neg (by simp)]
          omega
        unfold Lib.splitK at ih ⊢
        rw [h1, if_neg (by simp)] at ih
        rw [h2, if_neg (by simpa using (by omega : ((i + 1 : Nat) : Int) ≠ -1)), ← ih]
        simp
theorem join_two (x y : List UInt8) (r : List (List UInt8)) : Lib.join (x :: y :: r) [46] = x ++ 46 :: Lib.join (y :: r) [46] := by
  rw [Lib.join_cons, Lib.join_cons]
  simp [Lib.joinTail]
theorem sp_join (s : List UInt8) : Lib.join (sp s) [46] = s := by
  induction s with
  | nil => simp [sp, Lib.join_one]
  | cons c r ih =>
    obtain ⟨h, t, e⟩ := sp_ne r
    unfold sp
    by_cases hc : c = 46
    · subst hc
      rw [if_pos rfl, e, join_two, ← e, ih]
      rfl
    · rw [if_neg hc, e]
      simp only
      rw [e, Lib.join_cons] at ih
      rw [Lib.join_cons, List.cons_append, ih]
theorem sp_app (p s : List UInt8) (h : 46 ∉ p) : ∀ a t, sp s = a :: t → sp (p ++ s) = (p ++ a) :: t := by
  induction p with
  | nil => intro a t e; simpa using e
  | cons c r ih =>
    intro a t e
    have hc : c ≠ 46 := fun hc => h (by simp [hc])
    rw [List.cons_append]
    unfold sp
    rw [if_neg hc, ih (fun hm => h (List.mem_cons_of_mem _ hm)) a t e]
    rfl
theorem sp_of_join : ∀ (ps : List (List UInt8)), ps ≠ [] → (∀ p ∈ ps, 46 ∉ p) → sp (Lib.join ps [46]) = ps
  | [], h, _ => absurd rfl h
  | [p], _, hp => by
    rw [Lib.join_one]
    have := sp_app p [] (hp p (by simp)) [] [] rfl
    simpa using this
  | p :: q :: r, _, hp => by
    rw [join_two]
    have h1 := sp_of_join (q :: r) (by simp) (fun x hx => hp x (List.mem_cons_of_mem _ hx))
    have h2 : sp (46 :: Lib.join (q :: r) [46]) = [] :: q :: r := by unfold sp; rw [if_pos rfl, h1]
    have := sp_app p _ (hp p (by simp)) _ _ h2
    simpa using this
theorem pieces_sp (s : ByteArray) : (pieces s).map (·.data.toList) = sp s.data.toList := by
  unfold pieces
  rw [Lib.splitB_data]
  rw [show Lib.countB s ⟨#[46]⟩ = s.data.toList.count 46 from Lib.count_one 46 s.data.toList]
  exact splitK_sp _
theorem piece_num_fin : ∀ n : Fin 256, pieceV (numL n.val) = some n.val ∧ (46 : UInt8) ∉ numL n.val := by decide +kernel
theorem piece_num (n : Nat) (h : n < 256) : pieceV (numL n) = some n := (piece_num_fin ⟨n, h⟩).1
theorem num_no_point (n : Nat) (h : n < 256) : (46 : UInt8) ∉ numL n := (piece_num_fin ⟨n, h⟩).2
theorem piece_some {p : List UInt8} {n : Nat} (h : pieceV p = some n) : p = numL n ∧ n < 256 := by
  unfold pieceV at h
  split at h
  · split at h
    · rename_i v _ hc
      injection h with h
      subst h
      obtain ⟨h1, h2, h3⟩ := hc
      have e : v = ((v.toNat : Nat) : Int) := by omega
      rw [e, itoa_nat] at h3
      exact ⟨h3.symm, by omega⟩
    · cases h
  · cases h
theorem parse_text (a : Nat) (h : a < 4294967296) : parseA (strOf (textL a)) = some a := by
  have hs : (pieces (strOf (textL a))).map (·.data.toList) = [numL (adB a 0), numL (adB a 1), numL (adB a 2), numL (adB a 3)] := by
    rw [pieces_sp]
    show sp (textL a) = _
    unfold textL
    refine sp_of_join _ (by simp) (fun p hp => ?_)
    simp only [List.mem_cons, List.not_mem_nil, or_false] at hp
    rcases hp with rfl | rfl | rfl | rfl <;> exact num_no_point _ (adB_lt a _ h)
  have hl : (pieces (strOf (textL a))).length = 4 := by
    have := congrArg List.length hs
    simpa using this
  unfold parseA
  rw [hs]
  simp only [foldV, piece_num _ (adB_lt a _ h)]
  rw [if_pos hl]
  congr 1
  have e0 : adB a 0 = a / 16777216 := rfl
  have e1 : adB a 1 = a / 65536 % 256 := rfl
  have e2 : adB a 2 = a / 256 % 256 := rfl
  have e3 : adB a 3 = a % 256 := rfl
  rw [e0, e1, e2, e3]
  omega
theorem parse_some {s : ByteArray} {a : Nat} (h : parseA s = some a) : s = strOf (textL a) ∧ a < 4294967296 := by
  unfold parseA at h
  split at h
  · rename_i b hb
    split at h
    · rename_i hl
      injection h with h
      subst h
      have hs := pieces_sp s
      have hj := sp_join s.data.toList
      rw [← hs] at hj
      obtain ⟨l, hle⟩ : ∃ l, (pieces s).map (·.data.toList) = l := ⟨_, rfl⟩
      have hll : l.length = 4 := by rw [← hle, List.length_map, hl]
      rw [hle] at hb hj
      match l, hll with
      | [p0, p1, p2, p3], _ =>
        simp only [foldV] at hb
        split at hb
        · rename_i n0 h0
          split at hb
          · rename_i n1 h1
            split at hb
            · rename_i n2 h2
              split at hb
              · rename_i n3 h3
                injection hb with hb
                obtain ⟨rfl, q0⟩ := piece_some h0
                obtain ⟨rfl, q1⟩ := piece_some h1
                obtain ⟨rfl, q2⟩ := piece_some h2
                obtain ⟨rfl, q3⟩ := piece_some h3
                have e0 : adB b 0 = n0 := by show b / 16777216 = n0; omega
                have e1 : adB b 1 = n1 := by show b / 65536 % 256 = n1; omega
                have e2 : adB b 2 = n2 := by show b / 256 % 256 = n2; omega
                have e3 : adB b 3 = n3 := by show b % 256 = n3; omega
                refine ⟨?_, by omega⟩
                obtain ⟨⟨d⟩⟩ := s
                unfold textL
                rw [e0, e1, e2, e3, hj]
              · cases hb
            · cases hb
          · cases hb
        · cases hb
    · cases h
  · cases h
end Go.Proofs.YtfhdkcdhfdapbaaDoor
