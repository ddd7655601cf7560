/- An argument of layer 4's laws, opened. -/
import Derived.Test.YtbhdjalpkecbeaaRwAlive
namespace Go.Proofs.Ytbhdjalpkecbeaa
set_option linter.unusedVariables false
set_option linter.unusedSimpArgs false
open Go.Joins Go.ChangeShapes Go.WideShapes Go.RowKit Go.Deep

section
variable {H : Type} {enc : TypeId × Value → H} {P : Program} {w : World} {base : Nat} {spare : Nat → Bool} {held : Bool}
theorem open_rw4 {r : Reach} {b0 : Nat} {t : TypeId} {f0 f1 f2 f3 : Field} {v : Value} {d : DataW H} {p : List MemPlace} (hs : P.underlying t = some (.struct #[f0, f1, f2, f3])) (hC : P.cellsOf t = 8)
    (ho : f0.offset = 0 ∧ f1.offset = 1 ∧ f2.offset = 2 ∧ f3.offset = 3) (hk : P.cellsOf f0.type = 1 ∧ P.cellsOf f1.type = 1 ∧ P.cellsOf f2.type = 1 ∧ P.cellsOf f3.type = 5)
    (hv : Value.okWide P w r b0 t v) (h : DataW.Trod enc P w base spare held t v d p) :
    ∃ (c0 c1 c2 c3 c4 c5 c6 c7 : Value) (y0 y1 y2 y3 : DataW H × List MemPlace) (n : Nat), v = .agg #[c0, c1, c2, c3, c4, c5, c6, c7] ∧ d = .agg [y0.1, y1.1, y2.1, y3.1] ∧
      DataW.trod enc P w base spare held n f0.type [c0] = some y0 ∧ DataW.trod enc P w base spare held n f1.type [c1] = some y1 ∧ DataW.trod enc P w base spare held n f2.type [c2] = some y2 ∧ DataW.trod enc P w base spare held n f3.type [c3, c4, c5, c6, c7] = some y3 := by
  obtain ⟨cs, rfl, hsz⟩ := okWide_struct hs hv
  obtain ⟨l⟩ := cs
  obtain ⟨o0, o1, o2, o3⟩ := ho
  obtain ⟨k0, k1, k2, k3⟩ := hk
  match l, hsz.trans hC with
  | [c0, c1, c2, c3, c4, c5, c6, c7], _ =>
    obtain ⟨fuel, hf⟩ := h
    obtain ⟨xs, n, _, hx, _, hlen, hg⟩ := DataW.trod_struct hs hf
    match xs, hlen with
    | [y0, y1, y2, y3], _ =>
      simp only [Prod.mk.injEq] at hx
      exact ⟨c0, c1, c2, c3, c4, c5, c6, c7, y0, y1, y2, y3, n, rfl, by simpa using hx.1, by simpa [Value.cells, o0, k0] using hg 0 f0 rfl, by simpa [Value.cells, o1, k1] using hg 1 f1 rfl, by simpa [Value.cells, o2, k2] using hg 2 f2 rfl, by simpa [Value.cells, o3, k3] using hg 3 f3 rfl⟩
end
/-- An argument of the laws. -/
structure Rwn where
  l : List UInt8
  a : Int
  port : Int
  f : Fl
def RwIs {H : Type} (W : World) (v : Value) (d : DataW H) (x : Rwn) : Prop := ∃ B c, v = .agg #[.slice B x.l.length c, .int .u32 x.a, .int .i64 x.port, .int .i64 x.f.proto, .int .u32 x.f.src, .int .i64 x.f.sp, .int .u32 x.f.dst, .int .i64 x.f.dp] ∧ x.l.length ≤ c ∧ RB W B x.l ∧ (0 ≤ x.a ∧ x.a ≤ 4294967295) ∧ (0 ≤ x.f.src ∧ x.f.src ≤ 4294967295) ∧ (0 ≤ x.f.dst ∧ x.f.dst ≤ 4294967295) ∧ c + 1 ≤ Rows.uptoBulk d
theorem open_rwn {H : Type} {enc : TypeId × Value → H} {w : World} {r : Reach} {b0 : Nat} {v : Value} {d : DataW H} {p : List MemPlace}
    (hv : Value.okWide Try.prog w r b0 28 v) (h : DataW.Trod enc Try.prog w 0 (fun _ => true) true 28 v d p) : ∃ x, RwIs w v d x := by
  obtain ⟨c0, c1, c2, c3, c4, c5, c6, c7, y0, y1, y2, y3, n, rfl, rfl, k0, k1, k2, k3⟩ := open_rw4 Try.underlying28 (by kernel_rfl) ⟨rfl, rfl, rfl, rfl⟩ ⟨by kernel_rfl, by kernel_rfl, by kernel_rfl, by kernel_rfl⟩ hv h
  obtain ⟨B, e, xs, rfl, hl2, hr2, hb2⟩ := bytes_of_trod Try.underlying22 Try.underlying5 (by kernel_rfl) k0
  obtain ⟨a, rfl, ha⟩ := int_of_trod Try.underlying24 k1
  obtain ⟨port, rfl, _⟩ := int_of_trod Try.underlying3 k2
  obtain ⟨z0, z1, z2, z3, z4, m, g0, g1, g2, g3, g4⟩ := open_fiveL Try.underlying26 (by kernel_rfl) k3
  obtain ⟨b0, rfl, _⟩ := int_of_trod Try.underlying3 g0
  obtain ⟨b1, rfl, hb1⟩ := int_of_trod Try.underlying24 g1
  obtain ⟨b2, rfl, _⟩ := int_of_trod Try.underlying3 g2
  obtain ⟨b3, rfl, hb3⟩ := int_of_trod Try.underlying24 g3
  obtain ⟨b4, rfl, _⟩ := int_of_trod Try.underlying3 g4
  have p2 := bulks.part_le (d := y0.1) (l := [y0.1, y1.1, y2.1, y3.1]) (by simp)
  refine ⟨⟨xs, a, port, ⟨b0, b1, b2, b3, b4⟩⟩, B, e, rfl, hl2, hr2, u32_of_wf ha, u32_of_wf hb1, u32_of_wf hb3, ?_⟩
  simp only [Rows.uptoBulk]
  omega
theorem blk8 {w : World} {g : Nat} {t : TypeId} {a0 a1 a2 a3 a4 a5 a6 a7 : Value} (h : Blk w g t [a0, a1, a2, a3, a4, a5, a6, a7]) :
    w.cell? ⟨g, 0, none⟩ = some a0 ∧ w.cell? ⟨g, 1, none⟩ = some a1 ∧ w.cell? ⟨g, 2, none⟩ = some a2 ∧ w.cell? ⟨g, 3, none⟩ = some a3 ∧ w.cell? ⟨g, 4, none⟩ = some a4 ∧ w.cell? ⟨g, 5, none⟩ = some a5 ∧ w.cell? ⟨g, 6, none⟩ = some a6 ∧ w.cell? ⟨g, 7, none⟩ = some a7 :=
  ⟨h.cell 0, h.cell 1, h.cell 2, h.cell 3, h.cell 4, h.cell 5, h.cell 6, h.cell 7⟩
end Go.Proofs.Ytbhdjalpkecbeaa
