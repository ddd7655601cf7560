/- A place as an argument, opened. -/
import Derived.Test.YtfhdkcdhfdapbaaDoorOpen
import Derived.Test.YtfhdkcdhfdapbaaDoorAdLaid
import Derived.Lib.SmallJoins
namespace Go.Proofs.YtfhdkcdhfdapbaaDoor
set_option linter.unusedVariables false
set_option linter.unusedSimpArgs false
open Go.Joins Go.ChangeShapes Go.WideShapes Go.RowKit Go.Deep

section
variable {H : Type} {enc : TypeId × Value → H} {P : Program} {w : World} {base : Nat} {spare : Nat → Bool} {held : Bool}
theorem open_four {r : Reach} {b0 : Nat} {t : TypeId} {f0 f1 f2 f3 : Field} {v : Value} {d : DataW H} {p : List MemPlace} (hs : P.underlying t = some (.struct #[f0, f1, f2, f3])) (hone : oneCellFields P #[f0, f1, f2, f3] = true) (hC : P.cellsOf t = 4)
    (hv : Value.okWide P w r b0 t v) (h : DataW.Trod enc P w base spare held t v d p) :
    ∃ (v0 v1 v2 v3 : Value) (y0 y1 y2 y3 : DataW H × List MemPlace) (n : Nat), v = .agg #[v0, v1, v2, v3] ∧ d = .agg [y0.1, y1.1, y2.1, y3.1] ∧
      DataW.trod enc P w base spare held n f0.type [v0] = some y0 ∧ DataW.trod enc P w base spare held n f1.type [v1] = some y1 ∧ DataW.trod enc P w base spare held n f2.type [v2] = some y2 ∧ DataW.trod enc P w base spare held n f3.type [v3] = some y3 := by
  obtain ⟨cs, rfl, hsz⟩ := okWide_struct hs hv
  obtain ⟨l⟩ := cs
  match l, hsz.trans hC with
  | [c0, c1, c2, c3], _ =>
    obtain ⟨fuel, hf⟩ := h
    obtain ⟨xs, n, _, hx, _, hlen, hg⟩ := DataW.trod_struct hs hf
    obtain ⟨o0, k0⟩ := hone_of hone 0 f0 rfl
    obtain ⟨o1, k1⟩ := hone_of hone 1 f1 rfl
    obtain ⟨o2, k2⟩ := hone_of hone 2 f2 rfl
    obtain ⟨o3, k3⟩ := hone_of hone 3 f3 rfl
    match xs, hlen with
    | [y0, y1, y2, y3], _ =>
      simp only [Prod.mk.injEq] at hx
      exact ⟨c0, c1, c2, c3, y0, y1, y2, y3, n, rfl, by simpa using hx.1, by simpa [Value.cells, o0, k0] using hg 0 f0 rfl, by simpa [Value.cells, o1, k1] using hg 1 f1 rfl, by simpa [Value.cells, o2, k2] using hg 2 f2 rfl, by simpa [Value.cells, o3, k3] using hg 3 f3 rfl⟩
end
structure Pc where
  k : Int
  p : Int
  n : Int
  a : Nat
def PcIs {H : Type} (v : Value) (_d : DataW H) (x : Pc) : Prop := v = .agg #[.int .i64 x.k, .int .i64 x.p, .int .i64 x.n, .int .u32 (x.a : Int)] ∧ x.a < 4294967296
set_option maxRecDepth 100000 in
theorem open_place {H : Type} {enc : TypeId × Value → H} {w : World} {r : Reach} {b0 : Nat} {v : Value} {d : DataW H} {p : List MemPlace}
    (hv : Value.okWide Tryd.prog w r b0 42 v) (h : DataW.Trod enc Tryd.prog w 0 (fun _ => true) true 42 v d p) : ∃ x, PcIs v d x := by
  obtain ⟨v0, v1, v2, v3, y0, y1, y2, y3, n, rfl, rfl, h0, h1, h2, h3⟩ := open_four Tryd.underlying42 (by kernel_rfl) (by kernel_rfl) hv h
  obtain ⟨a, rfl, _⟩ := int_of_trod Tryd.underlying3 h0
  obtain ⟨b, rfl, _⟩ := int_of_trod Tryd.underlying3 h1
  obtain ⟨c, rfl, _⟩ := int_of_trod Tryd.underlying3 h2
  obtain ⟨e, rfl, he⟩ := int_of_trod Tryd.underlying23 h3
  have hb : 0 ≤ e ∧ e ≤ 4294967295 := by simpa [Lit.wf, IntKind.min, IntKind.max, IntKind.signed, IntKind.bits] using he
  exact ⟨⟨a, b, c, e.toNat⟩, by show _ = Value.agg #[_, _, _, .int .u32 ((e.toNat : Nat) : Int)]; rw [Int.toNat_of_nonneg hb.1], by show e.toNat < _; omega⟩
end Go.Proofs.YtfhdkcdhfdapbaaDoor
