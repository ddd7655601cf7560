/- The argument of FabricFills, opened. -/
import Derived.Test.YtikichifdkgobaaFabricFillsWalk
namespace Go.Proofs.Ytikichifdkgobaa
set_option linter.unusedVariables false
set_option linter.unusedSimpArgs false
open Go.Joins Go.ChangeShapes Go.WideShapes Go.ChangeAt Go.RowKit Go.Deep

section
variable {H : Type} {enc : TypeId × Value → H} {P : Program} {w : World} {base : Nat} {spare : Nat → Bool} {held : Bool}
theorem open_full4 {r : Reach} {b0 : Nat} {t : TypeId} {f0 f1 f2 f3 : Field} {v : Value} {d : DataW H} {p : List MemPlace} (hs : P.underlying t = some (.struct #[f0, f1, f2, f3])) (hC : P.cellsOf t = 4)
    (ho : f0.offset = 0 ∧ f1.offset = 1 ∧ f2.offset = 2 ∧ f3.offset = 3) (hk : P.cellsOf f0.type = 1 ∧ P.cellsOf f1.type = 1 ∧ P.cellsOf f2.type = 1 ∧ P.cellsOf f3.type = 1)
    (hv : Value.okWide P w r b0 t v) (h : DataW.Trod enc P w base spare held t v d p) :
    ∃ (c0 c1 c2 c3 : Value) (y0 y1 y2 y3 : DataW H × List MemPlace) (n : Nat), v = .agg #[c0, c1, c2, c3] ∧ d = .agg [y0.1, y1.1, y2.1, y3.1] ∧
      DataW.trod enc P w base spare held n f0.type [c0] = some y0 ∧ DataW.trod enc P w base spare held n f1.type [c1] = some y1 ∧ DataW.trod enc P w base spare held n f2.type [c2] = some y2 ∧ DataW.trod enc P w base spare held n f3.type [c3] = some y3 := by
  obtain ⟨cs, rfl, hsz⟩ := okWide_struct hs hv
  obtain ⟨l⟩ := cs
  obtain ⟨o0, o1, o2, o3⟩ := ho
  obtain ⟨k0, k1, k2, k3⟩ := hk
  match l, hsz.trans hC with
  | [c0, c1, c2, c3], _ =>
    obtain ⟨fuel, hf⟩ := h
    obtain ⟨xs, n, _, hx, _, hlen, hg⟩ := DataW.trod_struct hs hf
    match xs, hlen with
    | [y0, y1, y2, y3], _ =>
      simp only [Prod.mk.injEq] at hx
      exact ⟨c0, c1, c2, c3, y0, y1, y2, y3, n, rfl, by simpa using hx.1, by simpa [Value.cells, o0, k0] using hg 0 f0 rfl, by simpa [Value.cells, o1, k1] using hg 1 f1 rfl, by simpa [Value.cells, o2, k2] using hg 2 f2 rfl, by simpa [Value.cells, o3, k3] using hg 3 f3 rfl⟩
end
structure Ful where
  a : Int
  b : Int
  l : List UInt8
  n : Int
def FulIs {H : Type} (W : World) (v : Value) (d : DataW H) (x : Ful) : Prop := ∃ B c, v = .agg #[.int .i64 x.a, .int .i64 x.b, .slice B x.l.length c, .int .i64 x.n] ∧ x.l.length ≤ c ∧ RB W B x.l ∧ x.l.length ≤ Rows.uptoBulk d
theorem open_ful {H : Type} {enc : TypeId × Value → H} {w : World} {r : Reach} {b0 : Nat} {v : Value} {d : DataW H} {p : List MemPlace}
    (hv : Value.okWide Try.prog w r b0 45 v) (h : DataW.Trod enc Try.prog w 0 (fun _ => true) true 45 v d p) : ∃ x, FulIs w v d x := by
  obtain ⟨c0, c1, c2, c3, y0, y1, y2, y3, n, rfl, rfl, k0, k1, k2, k3⟩ := open_full4 Try.underlying45 (by kernel_rfl) ⟨rfl, rfl, rfl, rfl⟩ ⟨by kernel_rfl, by kernel_rfl, by kernel_rfl, by kernel_rfl⟩ hv h
  obtain ⟨a, rfl, ha⟩ := int_of_trod Try.underlying3 k0
  obtain ⟨b, rfl, hb⟩ := int_of_trod Try.underlying3 k1
  obtain ⟨B, e, xs, rfl, hl2, hr2, hb2⟩ := bytes_of_trod Try.underlying29 Try.underlying5 (by kernel_rfl) k2
  obtain ⟨m, rfl, hm⟩ := int_of_trod Try.underlying3 k3
  have p2 := bulks.part_le (d := y2.1) (l := [y0.1, y1.1, y2.1, y3.1]) (by simp)
  refine ⟨⟨a, b, xs, m⟩, B, e, rfl, hl2, hr2, ?_⟩
  simp only [Rows.uptoBulk]
  show xs.length ≤ _
  omega
theorem FabricFillsX_walk {H : Type} {da : DataW H} (x : Ful) (v : Value) (w : World) (o : FulIs w v da x) (b : Rows.uptoBulk da ≤ 1048576) :
    Calls Try.prog 4 #[v] w fun e w' => e = .returned (.bool true) ∧ Below w.heap.size w w' := by
  obtain ⟨B, c, rfl, h1, h2, h3⟩ := o
  exact FabricFills_at x.a x.b x.n x.l B c w h1 h2 (by omega)
end Go.Proofs.Ytikichifdkgobaa
