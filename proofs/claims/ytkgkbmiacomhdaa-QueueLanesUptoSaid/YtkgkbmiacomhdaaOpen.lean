/- Arguments opened: slices of bytes, of words; what the bound says of them. -/
import Derived.Test.YtkgkbmiacomhdaaRows
import Derived.Test.YtkgkbmiacomhdaaMem
import Derived.ProofKit
import Derived.OpenShut
import Derived.JoinedCond
namespace Go.Proofs.Ytkgkbmiacomhdaa
set_option linter.unusedVariables false
set_option linter.unusedSimpArgs false
open Go.ChangeShapes Go.WideShapes Go.ChangeAt Go.RowKit

namespace bulks
theorem one_le {H : Type} (d : DataW H) : 1 ≤ Rows.uptoBulk d := by
  cases d with
  | lit l => cases l <;> simp [Rows.uptoBulk]
  | nil => simp [Rows.uptoBulk]
  | ptr d => simp [Rows.uptoBulk]
  | slice elems spare => simp [Rows.uptoBulk]
  | agg parts => simp [Rows.uptoBulk]
  | iface t d => simp [Rows.uptoBulk]
  | map entries => simp [Rows.uptoBulk]
  | held h => simp [Rows.uptoBulk]
theorem part_le {H : Type} {d : DataW H} {l : List (DataW H)} (h : d ∈ l) : Rows.uptoBulk d ≤ Rows.uptoBulkAll l := by
  induction l with
  | nil => cases h
  | cons x r ih =>
    simp only [Rows.uptoBulkAll]
    cases List.mem_cons.1 h with
    | inl e => subst e; omega
    | inr e => have := ih e; omega
theorem length_le {H : Type} (l : List (DataW H)) : l.length ≤ Rows.uptoBulkAll l := by
  induction l with
  | nil => simp [Rows.uptoBulkAll]
  | cons x r ih => have := one_le x; simp only [Rows.uptoBulkAll, List.length_cons]; omega
theorem bound {H : Type} {l : List (DataW H)} (hk : Rows.uptoSmall H l = true) : Rows.uptoBulkAll l ≤ 1048576 := of_decide_eq_true hk
theorem part {H : Type} {l : List (DataW H)} (hk : Rows.uptoSmall H l = true) {d : DataW H} (h : d ∈ l) : Rows.uptoBulk d ≤ 1048576 := Nat.le_trans (part_le h) (bound hk)
end bulks

section
variable {H : Type} {enc : TypeId × Value → H} {P : Program} {w : World} {base : Nat} {r : Reach} {b0 : Nat}

/-- A slice of whole numbers of one kind. -/
theorem nums_of_trod {t e : TypeId} {k : IntKind} {v : Value} {y : DataW H × List MemPlace} {fuel : Nat} (ht : P.underlying t = some (.slice e)) (he : P.underlying e = some (.int k)) (hc : P.cellsOf e = 1)
    (hf : DataW.trod enc P w base (fun _ => true) true fuel t [v] = some y) :
    ∃ (A : Option Addr) (n c : Nat) (zs : List Int), v = .slice A n c ∧ zs.length = n ∧ n ≤ c ∧ RC w A (zs.map (Value.int k)) ∧ (∀ z ∈ zs, (Lit.int k z).wf = true) ∧ c + 1 ≤ Rows.uptoBulk y.1 := by
  rcases open_ints ht he hc hf with ⟨hcs, hx⟩ | ⟨a, len, cap, zs, hcs, _, hl, hm, hz, hx, hcell, hwz⟩
  · simp at hcs
    subst hcs
    exact ⟨none, 0, 0, [], rfl, rfl, Nat.le_refl _, RC.nil _ _, (fun z hz => by cases hz), bulks.one_le _⟩
  · simp at hcs
    subst hcs
    simp only [if_true] at hz
    refine ⟨some a, len, cap, zs.take len, rfl, by rw [List.length_take]; omega, hl, fun j u hu => ⟨a, rfl, ?_⟩, fun z hz' => hwz z (List.mem_of_mem_take hz'), ?_⟩
    · rw [List.getElem?_map, List.getElem?_take] at hu
      split at hu
      · rename_i hj
        have hjz : j < zs.length := by omega
        rw [hcell j hjz]
        simp [List.getElem?_eq_getElem hjz] at hu
        simp [List.getD, List.getElem?_eq_getElem hjz, hu]
      · simp at hu
    · rw [hx]
      have h1 := bulks.length_le (lits (H := H) k (zs.take len))
      have h2 := bulks.length_le (lits (H := H) k (zs.drop len))
      simp only [lits, List.length_map, List.length_take, List.length_drop] at h1 h2
      simp only [Rows.uptoBulk]
      simp only [lits] at *
      omega
theorem open_nums {t e : TypeId} {k : IntKind} {v : Value} {d : DataW H} {p : List MemPlace} (ht : P.underlying t = some (.slice e)) (he : P.underlying e = some (.int k)) (hc : P.cellsOf e = 1)
    (hv : Value.okWide P w r b0 t v) (h : DataW.Trod enc P w base (fun _ => true) true t v d p) :
    ∃ (A : Option Addr) (n c : Nat) (zs : List Int), v = .slice A n c ∧ zs.length = n ∧ n ≤ c ∧ RC w A (zs.map (Value.int k)) ∧ (∀ z ∈ zs, (Lit.int k z).wf = true) ∧ c + 1 ≤ Rows.uptoBulk d := by
  obtain ⟨A, len, cap, rfl⟩ := okWide_slice ht hv
  obtain ⟨fuel, hf⟩ := h
  exact nums_of_trod ht he hc hf

/-- A slice of bytes. -/
theorem bytes_of_trod {t e : TypeId} {v : Value} {y : DataW H × List MemPlace} {fuel : Nat} (ht : P.underlying t = some (.slice e)) (he : P.underlying e = some (.int .u8)) (hc : P.cellsOf e = 1)
    (hf : DataW.trod enc P w base (fun _ => true) true fuel t [v] = some y) :
    ∃ (A : Option Addr) (c : Nat) (xs : List UInt8), v = .slice A xs.length c ∧ xs.length ≤ c ∧ RB w A xs ∧ c + 1 ≤ Rows.uptoBulk y.1 := by
  obtain ⟨A, n, c, zs, rfl, hn, hl, hr, hw, hb⟩ := nums_of_trod ht he hc hf
  refine ⟨A, c, zs.map fun z => UInt8.ofNat z.toNat, by rw [List.length_map, hn], by rw [List.length_map]; omega, ?_, hb⟩
  unfold RB
  rw [List.map_map]
  have e : zs.map (bv ∘ fun z => UInt8.ofNat z.toNat) = zs.map (Value.int .u8) := by
    refine List.map_congr_left fun z hz => ?_
    have hz1 := hw z hz
    have hz2 : 0 ≤ z ∧ z ≤ 255 := by simpa [Lit.wf, IntKind.min, IntKind.max, IntKind.signed, IntKind.bits] using hz1
    show Value.int .u8 _ = Value.int .u8 z
    congr 1
    rw [UInt8.toNat_ofNat']
    omega
  rw [e]
  exact hr
theorem open_bytes {t e : TypeId} {v : Value} {d : DataW H} {p : List MemPlace} (ht : P.underlying t = some (.slice e)) (he : P.underlying e = some (.int .u8)) (hc : P.cellsOf e = 1)
    (hv : Value.okWide P w r b0 t v) (h : DataW.Trod enc P w base (fun _ => true) true t v d p) :
    ∃ (A : Option Addr) (c : Nat) (xs : List UInt8), v = .slice A xs.length c ∧ xs.length ≤ c ∧ RB w A xs ∧ c + 1 ≤ Rows.uptoBulk d := by
  obtain ⟨A, len, cap, rfl⟩ := okWide_slice ht hv
  obtain ⟨fuel, hf⟩ := h
  exact bytes_of_trod ht he hc hf

/-- A whole number. -/
theorem int_of_trod {t : TypeId} {k : IntKind} {v : Value} {y : DataW H × List MemPlace} {fuel : Nat} (ht : P.underlying t = some (.int k)) (hf : DataW.trod enc P w base (fun _ => true) true fuel t [v] = some y) :
    ∃ n : Int, v = .int k n ∧ (Lit.int k n).wf = true := by
  obtain ⟨n, e, _, hw⟩ := DataW.trod_int ht hf
  simp at e
  exact ⟨n, e, hw⟩

/-- A slice of words. -/
theorem open_words {t e : TypeId} {v : Value} {d : DataW H} {p : List MemPlace} (ht : P.underlying t = some (.slice e)) (he : P.underlying e = some (.int .u16)) (hc : P.cellsOf e = 1)
    (hv : Value.okWide P w r b0 t v) (h : DataW.Trod enc P w base (fun _ => true) true t v d p) :
    ∃ (A : Option Addr) (c : Nat) (xs : List Nat), v = .slice A xs.length c ∧ xs.length ≤ c ∧ RC w A (xs.map fun n : Nat => Value.int .u16 (n : Int)) ∧ (∀ x ∈ xs, x ≤ 65535) ∧ c + 1 ≤ Rows.uptoBulk d := by
  obtain ⟨A, n, c, zs, rfl, hn, hl, hr, hw, hb⟩ := open_nums ht he hc hv h
  have hz2 : ∀ z ∈ zs, 0 ≤ z ∧ z ≤ 65535 := fun z hz => by simpa [Lit.wf, IntKind.min, IntKind.max, IntKind.signed, IntKind.bits] using hw z hz
  refine ⟨A, c, zs.map fun z => z.toNat, by rw [List.length_map, hn], by rw [List.length_map]; omega, ?_, ?_, hb⟩
  · rw [List.map_map]
    have e : zs.map ((fun n : Nat => Value.int .u16 (n : Int)) ∘ fun z => z.toNat) = zs.map (Value.int .u16) := by
      refine List.map_congr_left fun z hz => ?_
      have := hz2 z hz
      show Value.int .u16 ((z.toNat : Nat) : Int) = Value.int .u16 z
      rw [Int.toNat_of_nonneg (by omega)]
    rw [e]
    exact hr
  · intro x hx
    obtain ⟨z, hz, rfl⟩ := List.mem_map.1 hx
    have := hz2 z hz
    omega
end
end Go.Proofs.Ytkgkbmiacomhdaa
