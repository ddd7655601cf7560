/- '==' of flows. -/
import Derived.Test.YtfhdkcdhfdapbaaDoorFlow
import Derived.Laws.StructEq
namespace Go.Proofs.YtfhdkcdhfdapbaaDoor
set_option linter.unusedVariables false
set_option linter.unusedSimpArgs false
open Go.RowKit

section
variable {P : Program} {d : Nat} {xs ys : Array Value} {f : Field} {fs : List Field} {a b : Value} {r s : Bool} {w : World}
theorem fields_more (hn : (f.name == "_") = false) (ha : (part f.type xs f.offset).run P w = .ok a w) (hb : (part f.type ys f.offset).run P w = .ok b w) (he : (Op.equalIn d f.type a b).run P w = .ok r w) (hr : (Op.eqFields d xs ys fs).run P w = .ok s w) : (Op.eqFields d xs ys (f :: fs)).run P w = .ok (r && s) w := by
  have hn' : f.name ≠ "_" := by simpa using hn
  rw [Op.eqFields]
  simp only [if_pos hn', Sem.run_bind, ha, hb, he, Result.andThen_ok]
  cases r
  · simp
  · simpa using hr
theorem fields_none : (Op.eqFields d xs ys []).run P w = .ok true w := by simp [Op.eqFields]
theorem struct_of {t : TypeId} {fs : Array Field} (hu : P.underlying t = some (.struct fs)) (hp : P.stoodInHeld t = false) (h : (Op.eqFields d xs ys fs.toList).run P w = .ok r w) : (Op.equalIn (d + 1) t (.agg xs) (.agg ys)).run P w = .ok r w := by
  have hf : P.fieldsOf t = fs := by simp [Program.fieldsOf, hu]
  rw [run_equalIn_struct (P := P) w d t xs ys (by rw [hf]; exact hu) hp, hf]
  exact h
end
/-- Are two flows one? -/
def flB (f g : Fl) : Bool := f.proto == g.proto && (f.src == g.src && (f.sp == g.sp && (f.dst == g.dst && (f.dp == g.dp && true))))
theorem flB_iff (f g : Fl) : flB f g = true ↔ f = g := by
  obtain ⟨a, b, c, d, e⟩ := f
  obtain ⟨a', b', c', d', e'⟩ := g
  simp [flB]
theorem fl_eqIn (d : Nat) (w : World) (f g : Fl) : (Op.equalIn (d + 2) 53 (flv f) (flv g)).run Tryd.prog w = .ok (flB f g) w := by
  refine struct_of Tryd.underlying53 (by kernel_rfl) ?_
  refine fields_more (by rfl) (by go_simp; rfl) (by go_simp; rfl) (by go_simp) ?_
  refine fields_more (by rfl) (by go_simp; rfl) (by go_simp; rfl) (by go_simp) ?_
  refine fields_more (by rfl) (by go_simp; rfl) (by go_simp; rfl) (by go_simp) ?_
  refine fields_more (by rfl) (by go_simp; rfl) (by go_simp; rfl) (by go_simp) ?_
  exact fields_more (by rfl) (by go_simp; rfl) (by go_simp; rfl) (by go_simp) fields_none
theorem fl_eql (W : World) (f g : Fl) : (binOp .eql 53 (flv f) (flv g)).run Tryd.prog W = .ok (.bool (flB f g)) W := by
  rw [run_eql_struct]
  rw [fl_eqIn 9998]
  rfl
theorem fl_neq (W : World) (f g : Fl) : (binOp .neq 53 (flv f) (flv g)).run Tryd.prog W = .ok (.bool (!flB f g)) W := by
  rw [run_neq_struct]
  rw [fl_eqIn 9998]
  rfl
theorem fl_eq10 (W : World) (f g : Fl) : (Op.equalIn 10000 53 (flv f) (flv g)).run Tryd.prog W = .ok (flB f g) W := fl_eqIn 9998 W f g
theorem fl_same (f : Fl) (W : World) : (Op.equalIn 10000 53 (flv f) (flv f)).run Tryd.prog W = .ok true W := by
  rw [fl_eq10, (flB_iff f f).2 rfl]
end Go.Proofs.YtfhdkcdhfdapbaaDoor
