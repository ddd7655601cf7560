/- Scripts of layer 7: opened; the walk of long. -/
import Derived.Test.YtkgkbmiacomhdaaRowsEq
import Derived.Deep.DeepCutAuto
namespace Go.Proofs.Ytkgkbmiacomhdaa
set_option linter.unusedVariables false
set_option linter.unusedSimpArgs false
open Go.ChangeShapes Go.WideShapes Go.RowKit

/-- One call of a script. -/
structure QOp where
  kind : Int
  rows : List (List UInt8)
  n : Int
def OpAt (w : World) (ad : Addr) (o : QOp) : Prop := ∃ B c, (∀ j u, [Value.int .i64 o.kind, .slice B o.rows.length c, .int .i64 o.n][j]? = some u → w.cell? (ad.add j) = some u) ∧ o.rows.length ≤ c ∧ RP w B o.rows
/-- A script at A. -/
def OpsAt (w : World) (A : Option Addr) (ops : List QOp) : Prop := ∀ j (h : j < ops.length), ∃ ad, A = some ad ∧ OpAt w (ad.add (j * 3)) ops[j]
theorem OpAt.below {w w' : World} {ad : Addr} {o : QOp} (h : OpAt w ad o) (hb : Below w.heap.size w w') : OpAt w' ad o := by
  obtain ⟨B, c, h1, h2, h3⟩ := h
  exact ⟨B, c, fun j u hu => cell_keep hb (h1 j u hu), h2, h3.below hb⟩
theorem OpsAt.below {w w' : World} {A : Option Addr} {ops : List QOp} (h : OpsAt w A ops) (hb : Below w.heap.size w w') : OpsAt w' A ops := fun j hj => by
  obtain ⟨ad, e, ho⟩ := h j hj
  exact ⟨ad, e, ho.below hb⟩
/-- Bounds that all calls of a script keep. -/
def OpsLe (ops : List QOp) : Prop := ∀ o ∈ ops, o.rows.length ≤ 1048576 ∧ total o.rows ≤ 1048576 ∧ (Lit.int .i64 o.n).wf = true
section
variable {H : Type} {enc : TypeId × Value → H} {w : World}
theorem op_of_trod {cs : List Value} {y : DataW H × List MemPlace} {fuel : Nat} (hf : DataW.trod enc Try.prog w 0 (fun _ => true) true fuel 37 cs = some y) :
    ∃ (o : QOp) (B : Option Addr) (c : Nat), cs = [.int .i64 o.kind, .slice B o.rows.length c, .int .i64 o.n] ∧ o.rows.length ≤ c ∧ RP w B o.rows ∧ (Lit.int .i64 o.n).wf = true ∧ total o.rows + c + 1 ≤ Rows.uptoBulk y.1 := by
  obtain ⟨xs, n, _, hx, hl, hlen, hg⟩ := DataW.trod_struct Try.underlying37 hf
  have hl3 : cs.length = 3 := hl.trans (by kernel_rfl)
  match cs, hl3 with
  | [c0, c1, c2], _ =>
    match xs, hlen with
    | [y0, y1, y2], _ =>
      have k1 : Try.prog.cellsOf 3 = 1 := by kernel_rfl
      have k2 : Try.prog.cellsOf 33 = 1 := by kernel_rfl
      have g0 := hg 0 _ rfl
      have g1 := hg 1 _ rfl
      have g2 := hg 2 _ rfl
      simp only [k1, k2, List.drop_zero, List.drop_succ_cons, List.take_succ_cons, List.take_zero, List.getElem?_cons_zero, List.getElem?_cons_succ] at g0 g1 g2
      obtain ⟨a, rfl, _⟩ := int_of_trod Try.underlying3 g0
      obtain ⟨B, c, ps, rfl, hpc, hps, hbk⟩ := rows_of_trod Try.underlying33 Try.underlying42 Try.underlying5 (by kernel_rfl) (by kernel_rfl) g1
      obtain ⟨b, rfl, hb⟩ := int_of_trod Try.underlying3 g2
      subst hx
      have p1 := bulks.part_le (d := y1.1) (l := [y0.1, y1.1, y2.1]) (by simp)
      refine ⟨⟨a, ps, b⟩, B, c, rfl, hpc, hps, hb, ?_⟩
      simp only [List.map_cons, List.map_nil, Rows.uptoBulk] at p1 ⊢
      omega
theorem open_qops {r : Reach} {b0 : Nat} {v : Value} {d : DataW H} {p : List MemPlace} (hv : Value.okWide Try.prog w r b0 22 v) (h : DataW.Trod enc Try.prog w 0 (fun _ => true) true 22 v d p) (hbd : Rows.uptoBulk d ≤ 1048576) :
    ∃ (A : Option Addr) (c : Nat) (ops : List QOp), v = .slice A ops.length c ∧ OpsAt w A ops ∧ OpsLe ops ∧ c + 1 ≤ 1048576 ∧ ops.length ≤ c := by
  obtain ⟨A, len, cap, rfl⟩ := okWide_slice Try.underlying22 hv
  obtain ⟨fuel, hf⟩ := h
  obtain ⟨A, n, c, f, ds, hv, hnc, hdl, hbk, hj⟩ := slice_of_trod Try.underlying22 (by kernel_rfl) hf
  have hbk2 : Rows.uptoBulkAll (ds.map (·.1)) + (c - n) + 1 ≤ Rows.uptoBulk d := hbk
  have key : ∀ m, m ≤ n → ∃ ops : List QOp, ops.length = m ∧ OpsAt w A ops ∧ OpsLe ops := by
    intro m
    induction m with
    | zero => exact fun _ => ⟨[], rfl, fun j h => absurd h (Nat.not_lt_zero _), fun o h => by cases h⟩
    | succ m ih =>
      intro hm
      obtain ⟨ops, h1, h2, h3⟩ := ih (by omega)
      obtain ⟨ad, cs1, rfl, hl1, hcell, e, hd, ht1⟩ := hj m (by omega)
      obtain ⟨o, B, cb, rfl, hoc, hoB, hwf, hob⟩ := op_of_trod ht1
      have hpl := bulks.part_le (d := e.1) (l := ds.map (·.1)) (List.mem_map.2 ⟨e, List.mem_of_getElem? hd, rfl⟩)
      refine ⟨ops ++ [o], by simp [h1], fun j hjl => ?_, fun o' ho' => ?_⟩
      · by_cases hjm : j < ops.length
        · rw [List.getElem_append_left hjm]
          exact h2 j hjm
        · have hj0 : j = m := by simp at hjl; omega
          subst hj0
          rw [List.getElem_append_right (by omega)]
          refine ⟨ad, rfl, B, cb, fun i u hu => ?_, by simpa [h1] using hoc, by simpa [h1] using hoB⟩
          rw [add_add']
          have hu' : [Value.int .i64 o.kind, .slice B o.rows.length cb, .int .i64 o.n][i]? = some u := by simpa [h1] using hu
          exact hcell i u hu'
      · rcases List.mem_append.1 ho' with h | h
        · exact h3 o' h
        · simp only [List.mem_singleton] at h
          subst h
          exact ⟨by omega, by omega, hwf⟩
  obtain ⟨ops, h1, h2, h3⟩ := key n (Nat.le_refl _)
  have h4 := bulks.length_le (ds.map (·.1))
  rw [List.length_map] at h4
  exact ⟨A, c, ops, by rw [h1]; exact hv, h2, h3, by omega, by omega⟩
end
end Go.Proofs.Ytkgkbmiacomhdaa
