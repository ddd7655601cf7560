/- A packet as an argument, opened. -/
import Derived.Test.YtbhdjalpkecbeaaPkt
import Derived.Test.YtbhdjalpkecbeaaFlowOpen
namespace Go.Proofs.Ytbhdjalpkecbeaa
set_option linter.unusedVariables false
set_option linter.unusedSimpArgs false
open Go.Joins Go.ChangeShapes Go.WideShapes Go.RowKit Go.Deep

section
variable {H : Type} {enc : TypeId × Value → H} {P : Program} {w : World} {base : Nat} {spare : Nat → Bool} {held : Bool}
theorem open_fiveL {t : TypeId} {f0 f1 f2 f3 f4 : Field} {c0 c1 c2 c3 c4 : Value} {fuel : Nat} {x : DataW H × List MemPlace} (hs : P.underlying t = some (.struct #[f0, f1, f2, f3, f4])) (hone : oneCellFields P #[f0, f1, f2, f3, f4] = true)
    (hf : DataW.trod enc P w base spare held fuel t [c0, c1, c2, c3, c4] = some x) :
    ∃ (y0 y1 y2 y3 y4 : DataW H × List MemPlace) (n : Nat), DataW.trod enc P w base spare held n f0.type [c0] = some y0 ∧ DataW.trod enc P w base spare held n f1.type [c1] = some y1 ∧ DataW.trod enc P w base spare held n f2.type [c2] = some y2 ∧ DataW.trod enc P w base spare held n f3.type [c3] = some y3 ∧ DataW.trod enc P w base spare held n f4.type [c4] = some y4 := by
  obtain ⟨xs, n, _, hx, _, hlen, hg⟩ := DataW.trod_struct hs hf
  obtain ⟨o0, k0⟩ := hone_of hone 0 f0 rfl
  obtain ⟨o1, k1⟩ := hone_of hone 1 f1 rfl
  obtain ⟨o2, k2⟩ := hone_of hone 2 f2 rfl
  obtain ⟨o3, k3⟩ := hone_of hone 3 f3 rfl
  obtain ⟨o4, k4⟩ := hone_of hone 4 f4 rfl
  match xs, hlen with
  | [y0, y1, y2, y3, y4], _ =>
    exact ⟨y0, y1, y2, y3, y4, n, by simpa [o0, k0] using hg 0 f0 rfl, by simpa [o1, k1] using hg 1 f1 rfl, by simpa [o2, k2] using hg 2 f2 rfl, by simpa [o3, k3] using hg 3 f3 rfl, by simpa [o4, k4] using hg 4 f4 rfl⟩
theorem open_nine {r : Reach} {b0 : Nat} {t : TypeId} {f0 f1 f2 f3 f4 f5 f6 f7 f8 : Field} {v : Value} {d : DataW H} {p : List MemPlace} (hs : P.underlying t = some (.struct #[f0, f1, f2, f3, f4, f5, f6, f7, f8])) (hC : P.cellsOf t = 13)
    (ho : f0.offset = 0 ∧ f1.offset = 1 ∧ f2.offset = 2 ∧ f3.offset = 3 ∧ f4.offset = 8 ∧ f5.offset = 9 ∧ f6.offset = 10 ∧ f7.offset = 11 ∧ f8.offset = 12)
    (hk : P.cellsOf f0.type = 1 ∧ P.cellsOf f1.type = 1 ∧ P.cellsOf f2.type = 1 ∧ P.cellsOf f3.type = 5 ∧ P.cellsOf f4.type = 1 ∧ P.cellsOf f5.type = 1 ∧ P.cellsOf f6.type = 1 ∧ P.cellsOf f7.type = 1 ∧ P.cellsOf f8.type = 1)
    (hv : Value.okWide P w r b0 t v) (h : DataW.Trod enc P w base spare held t v d p) :
    ∃ (c0 c1 c2 c3 c4 c5 c6 c7 c8 c9 c10 c11 c12 : Value) (y0 y1 y2 y3 y4 y5 y6 y7 y8 : DataW H × List MemPlace) (n : Nat), v = .agg #[c0, c1, c2, c3, c4, c5, c6, c7, c8, c9, c10, c11, c12] ∧ d = .agg [y0.1, y1.1, y2.1, y3.1, y4.1, y5.1, y6.1, y7.1, y8.1] ∧
      DataW.trod enc P w base spare held n f0.type [c0] = some y0 ∧ DataW.trod enc P w base spare held n f1.type [c1] = some y1 ∧ DataW.trod enc P w base spare held n f2.type [c2] = some y2 ∧ DataW.trod enc P w base spare held n f3.type [c3, c4, c5, c6, c7] = some y3 ∧ DataW.trod enc P w base spare held n f4.type [c8] = some y4 ∧
      DataW.trod enc P w base spare held n f5.type [c9] = some y5 ∧ DataW.trod enc P w base spare held n f6.type [c10] = some y6 ∧ DataW.trod enc P w base spare held n f7.type [c11] = some y7 ∧ DataW.trod enc P w base spare held n f8.type [c12] = some y8 := by
  obtain ⟨cs, rfl, hsz⟩ := okWide_struct hs hv
  obtain ⟨l⟩ := cs
  obtain ⟨o0, o1, o2, o3, o4, o5, o6, o7, o8⟩ := ho
  obtain ⟨k0, k1, k2, k3, k4, k5, k6, k7, k8⟩ := hk
  match l, hsz.trans hC with
  | [c0, c1, c2, c3, c4, c5, c6, c7, c8, c9, c10, c11, c12], _ =>
    obtain ⟨fuel, hf⟩ := h
    obtain ⟨xs, n, _, hx, _, hlen, hg⟩ := DataW.trod_struct hs hf
    match xs, hlen with
    | [y0, y1, y2, y3, y4, y5, y6, y7, y8], _ =>
      simp only [Prod.mk.injEq] at hx
      exact ⟨c0, c1, c2, c3, c4, c5, c6, c7, c8, c9, c10, c11, c12, y0, y1, y2, y3, y4, y5, y6, y7, y8, n, rfl, by simpa using hx.1, by simpa [Value.cells, o0, k0] using hg 0 f0 rfl, by simpa [Value.cells, o1, k1] using hg 1 f1 rfl, by simpa [Value.cells, o2, k2] using hg 2 f2 rfl, by simpa [Value.cells, o3, k3] using hg 3 f3 rfl, by simpa [Value.cells, o4, k4] using hg 4 f4 rfl,
        by simpa [Value.cells, o5, k5] using hg 5 f5 rfl, by simpa [Value.cells, o6, k6] using hg 6 f6 rfl, by simpa [Value.cells, o7, k7] using hg 7 f7 rfl, by simpa [Value.cells, o8, k8] using hg 8 f8 rfl⟩
end
/-- An argument is the packet p. -/
def PktIs {H : Type} (W : World) (v : Value) (d : DataW H) (p : Pk) : Prop := ∃ B e, v = pkv p B e ∧ PkD W B e p ∧ U32s p ∧ e + 1 ≤ Rows.uptoBulk d
theorem open_pkt {H : Type} {enc : TypeId × Value → H} {w : World} {r : Reach} {b0 : Nat} {v : Value} {d : DataW H} {p : List MemPlace}
    (hv : Value.okWide Try.prog w r b0 52 v) (h : DataW.Trod enc Try.prog w 0 (fun _ => true) true 52 v d p) : ∃ f, PktIs w v d f := by
  obtain ⟨c0, c1, c2, c3, c4, c5, c6, c7, c8, c9, c10, c11, c12, y0, y1, y2, y3, y4, y5, y6, y7, y8, n, rfl, rfl, h0, h1, h2, h3, h4, h5, h6, h7, h8⟩ := open_nine Try.underlying52 (by kernel_rfl) ⟨rfl, rfl, rfl, rfl, rfl, rfl, rfl, rfl, rfl⟩ ⟨by kernel_rfl, by kernel_rfl, by kernel_rfl, by kernel_rfl, by kernel_rfl, by kernel_rfl, by kernel_rfl, by kernel_rfl, by kernel_rfl⟩ hv h
  obtain ⟨a0, rfl, _⟩ := int_of_trod Try.underlying3 h0
  obtain ⟨a1, rfl, _⟩ := int_of_trod Try.underlying3 h1
  obtain ⟨a2, rfl, _⟩ := int_of_trod Try.underlying3 h2
  obtain ⟨z0, z1, z2, z3, z4, m, g0, g1, g2, g3, g4⟩ := open_fiveL Try.underlying26 (by kernel_rfl) h3
  obtain ⟨b0, rfl, _⟩ := int_of_trod Try.underlying3 g0
  obtain ⟨b1, rfl, hb1⟩ := int_of_trod Try.underlying24 g1
  obtain ⟨b2, rfl, _⟩ := int_of_trod Try.underlying3 g2
  obtain ⟨b3, rfl, hb3⟩ := int_of_trod Try.underlying24 g3
  obtain ⟨b4, rfl, _⟩ := int_of_trod Try.underlying3 g4
  obtain ⟨a4, rfl, ha4⟩ := int_of_trod Try.underlying23 h4
  obtain ⟨a5, rfl, ha5⟩ := int_of_trod Try.underlying23 h5
  obtain ⟨a6, rfl, _⟩ := int_of_trod Try.underlying3 h6
  obtain ⟨a7, rfl, _⟩ := int_of_trod Try.underlying3 h7
  obtain ⟨B, e, xs, rfl, hl2, hr2, hb2⟩ := bytes_of_trod Try.underlying22 Try.underlying5 (by kernel_rfl) h8
  have p2 := bulks.part_le (d := y8.1) (l := [y0.1, y1.1, y2.1, y3.1, y4.1, y5.1, y6.1, y7.1, y8.1]) (by simp)
  refine ⟨⟨a0, a1, a2, ⟨b0, b1, b2, b3, b4⟩, a4, a5, a6, a7, xs⟩, B, e, rfl, ⟨hl2, hr2⟩, ⟨u32_of_wf hb1, u32_of_wf hb3, u32_of_wf ha4, u32_of_wf ha5⟩, ?_⟩
  simp only [Rows.uptoBulk]
  omega
end Go.Proofs.Ytbhdjalpkecbeaa
