/- Arguments opened: slices of whatever is opened by an opener of its own; rows of bytes; slices of bools. -/
import Derived.Test.YtkgkbmiacomhdaaOpen
import Derived.DataReads
namespace Go.Proofs.Ytkgkbmiacomhdaa
set_option linter.unusedVariables false
set_option linter.unusedSimpArgs false
open Go.ChangeShapes Go.WideShapes Go.RowKit

section
variable {H : Type} {enc : TypeId × Value → H} {P : Program} {w : World}
/-- A slice: each of its elements is read; its bulk. -/
theorem slice_of_trod {t e : TypeId} {v : Value} {y : DataW H × List MemPlace} {fuel k : Nat} (ht : P.underlying t = some (.slice e)) (hc : P.cellsOf e = k)
    (hf : DataW.trod enc P w 0 (fun _ => true) true fuel t [v] = some y) :
    ∃ (A : Option Addr) (n c f : Nat) (ds : List (DataW H × List MemPlace)), v = .slice A n c ∧ n ≤ c ∧ ds.length = n ∧ Rows.uptoBulkAll (ds.map (·.1)) + (c - n) + 1 ≤ Rows.uptoBulk y.1 ∧
      ∀ j (h : j < n), ∃ ad cs, A = some ad ∧ cs.length = k ∧ (∀ i u, cs[i]? = some u → w.cell? (ad.add (j * k + i)) = some u) ∧ ∃ d, ds[j]? = some d ∧ DataW.trod enc P w 0 (fun _ => true) true f e cs = some d := by
  subst hc
  rcases DataW.trod_slice ht hf with ⟨hcs, rfl⟩ | ⟨a, len, cap, elems, rest, n, _, hcs, rfl, _, hle, _, hel, he, hr, _⟩
  · simp only [List.cons.injEq, and_true] at hcs
    subst hcs
    exact ⟨none, 0, 0, 0, [], rfl, Nat.le_refl _, rfl, by simp [Rows.uptoBulkAll, Rows.uptoBulk], fun j h => absurd h (Nat.not_lt_zero _)⟩
  · simp only [List.cons.injEq, and_true] at hcs
    subst hcs
    refine ⟨some a, len, cap, n, elems, rfl, hle, hel, ?_, fun j hj => ?_⟩
    · have h1 := (hr rfl).1
      have h2 := bulks.length_le (rest.map (·.1))
      rw [List.length_map] at h2
      simp only [Rows.uptoBulk]
      omega
    · have h1 := he j hj
      have hjl : j < elems.length := by omega
      rw [List.getElem?_eq_getElem hjl] at h1
      obtain ⟨cs, h2, h3⟩ := Option.bind_eq_some_iff.1 h1
      obtain ⟨_, h5, h6⟩ := World.cells?_some h2
      refine ⟨a, cs, rfl, h5, fun i u hu => ?_, elems[j], List.getElem?_eq_getElem hjl, h3⟩
      have hi : i < cs.length := (List.getElem?_eq_some_iff.1 hu).1
      have h7 := h6 i (by omega)
      rw [hu, add_add'] at h7
      exact h7
/-- The bytes of rows. -/
def total (ps : List (List UInt8)) : Nat := (ps.map List.length).sum
/-- Rows of bytes. -/
theorem rows_of_trod {t e b : TypeId} {v : Value} {y : DataW H × List MemPlace} {fuel : Nat} (ht : P.underlying t = some (.slice e)) (he : P.underlying e = some (.slice b)) (hb : P.underlying b = some (.int .u8)) (hc : P.cellsOf e = 1) (hcb : P.cellsOf b = 1)
    (hf : DataW.trod enc P w 0 (fun _ => true) true fuel t [v] = some y) :
    ∃ (A : Option Addr) (c : Nat) (ps : List (List UInt8)), v = .slice A ps.length c ∧ ps.length ≤ c ∧ RP w A ps ∧ total ps + c + 1 ≤ Rows.uptoBulk y.1 := by
  obtain ⟨A, n, c, f, ds, rfl, hnc, hdl, hbk, hj⟩ := slice_of_trod ht hc hf
  have key : ∀ m, m ≤ n → ∃ (ps : List (List UInt8)) (cs : List Value), ps.length = m ∧ cs.length = m ∧ RC w A cs ∧ (∀ j (h : j < ps.length), ∃ B c, cs[j]? = some (.slice B ps[j].length c) ∧ ps[j].length ≤ c ∧ RB w B ps[j]) ∧ total ps + m ≤ Rows.uptoBulkAll ((ds.take m).map (·.1)) := by
    intro m
    induction m with
    | zero => exact fun _ => ⟨[], [], rfl, rfl, RC.nil _ _, fun j h => absurd h (Nat.not_lt_zero _), by simp [total, Rows.uptoBulkAll]⟩
    | succ m ih =>
      intro hm
      obtain ⟨ps, cs, h1, h2, h3, h4, h5⟩ := ih (by omega)
      obtain ⟨ad, cs1, rfl, hl1, hcell, d, hd, ht1⟩ := hj m (by omega)
      match cs1, hl1 with
      | [u], _ =>
        obtain ⟨B, cb, xs, rfl, hxc, hB, hbb⟩ := bytes_of_trod he hb hcb ht1
        refine ⟨ps ++ [xs], cs ++ [.slice B xs.length cb], by simp [h1], by simp [h2], ?_, ?_, ?_⟩
        · intro j u hu
          by_cases hjm : j < cs.length
          · rw [List.getElem?_append_left hjm] at hu
            exact h3 j u hu
          · rw [List.getElem?_append_right (by omega)] at hu
            have hj0 : j = m := by
              have := (List.getElem?_eq_some_iff.1 hu).1
              simp at this
              omega
            subst hj0
            rw [h2, Nat.sub_self] at hu
            simp at hu
            subst hu
            refine ⟨ad, rfl, ?_⟩
            have := hcell 0 _ rfl
            simpa using this
        · intro j hjl
          by_cases hjm : j < ps.length
          · obtain ⟨B', c', e1, e2, e3⟩ := h4 j hjm
            rw [List.getElem?_append_left (by omega), List.getElem_append_left hjm]
            exact ⟨B', c', e1, e2, e3⟩
          · have hj0 : j = m := by simp at hjl; omega
            subst hj0
            rw [List.getElem?_append_right (by omega), List.getElem_append_right (by omega)]
            refine ⟨B, cb, ?_, ?_, ?_⟩
            · simp [h1, h2]
            · simpa [h1] using hxc
            · simpa [h1] using hB
        · have hml : m < ds.length := by omega
          have e : ds.take (m + 1) = ds.take m ++ [d] := by
            rw [List.take_add_one, hd]; rfl
          rw [e, List.map_append]
          have e2 : ∀ (l l' : List (DataW H)), Rows.uptoBulkAll (l ++ l') = Rows.uptoBulkAll l + Rows.uptoBulkAll l' := by
            intro l l'
            induction l with
            | nil => simp [Rows.uptoBulkAll]
            | cons x r ih => simp only [List.cons_append, Rows.uptoBulkAll, ih]; omega
          rw [e2]
          simp only [List.map_cons, List.map_nil, Rows.uptoBulkAll, total, List.map_append, List.sum_append, List.sum_cons, List.sum_nil] at h5 ⊢
          omega
  obtain ⟨ps, cs, h1, h2, h3, h4, h5⟩ := key n (Nat.le_refl _)
  rw [List.take_of_length_le (by omega)] at h5
  exact ⟨A, c, ps, by rw [h1], by omega, ⟨cs, by omega, h3, h4⟩, by omega⟩
theorem open_rows {t e b : TypeId} {r : Reach} {b0 : Nat} {v : Value} {d : DataW H} {p : List MemPlace} (ht : P.underlying t = some (.slice e)) (he : P.underlying e = some (.slice b)) (hb : P.underlying b = some (.int .u8)) (hc : P.cellsOf e = 1) (hcb : P.cellsOf b = 1)
    (hv : Value.okWide P w r b0 t v) (h : DataW.Trod enc P w 0 (fun _ => true) true t v d p) :
    ∃ (A : Option Addr) (c : Nat) (ps : List (List UInt8)), v = .slice A ps.length c ∧ ps.length ≤ c ∧ RP w A ps ∧ total ps + c + 1 ≤ Rows.uptoBulk d := by
  obtain ⟨A, len, cap, rfl⟩ := okWide_slice ht hv
  obtain ⟨fuel, hf⟩ := h
  exact rows_of_trod ht he hb hc hcb hf
/-- Bools at A. -/
theorem open_bools {t e : TypeId} {r : Reach} {b0 : Nat} {v : Value} {d : DataW H} {p : List MemPlace} (ht : P.underlying t = some (.slice e)) (he : P.underlying e = some .bool) (hc : P.cellsOf e = 1)
    (hv : Value.okWide P w r b0 t v) (h : DataW.Trod enc P w 0 (fun _ => true) true t v d p) :
    ∃ (A : Option Addr) (n c : Nat), v = .slice A n c ∧ n ≤ c ∧ (∀ j, j < n → ∃ ad x, A = some ad ∧ w.cell? (ad.add j) = some (.bool x)) ∧ c + 1 ≤ Rows.uptoBulk d := by
  obtain ⟨A, len, cap, rfl⟩ := okWide_slice ht hv
  obtain ⟨fuel, hf⟩ := h
  obtain ⟨A, n, c, f, ds, hv, hnc, hdl, hbk, hj⟩ := slice_of_trod ht hc hf
  have h2 := bulks.length_le (ds.map (·.1))
  rw [List.length_map] at h2
  have hbk2 : Rows.uptoBulkAll (ds.map (·.1)) + (c - n) + 1 ≤ Rows.uptoBulk d := hbk
  refine ⟨A, n, c, hv, hnc, fun j hjn => ?_, by omega⟩
  obtain ⟨ad, cs1, rfl, hl1, hcell, d, hd, ht1⟩ := hj j hjn
  obtain ⟨x, rfl, _⟩ := DataW.trod_bool he ht1
  refine ⟨ad, x, rfl, ?_⟩
  have := hcell 0 _ rfl
  simpa using this
end
end Go.Proofs.Ytkgkbmiacomhdaa
