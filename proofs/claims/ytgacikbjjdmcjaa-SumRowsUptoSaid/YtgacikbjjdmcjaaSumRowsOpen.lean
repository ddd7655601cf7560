/- The argument of SumRows opened. -/
import Derived.Test.YtgacikbjjdmcjaaSumRowsWalk
import Derived.Test.YtgacikbjjdmcjaaOpen
import Derived.Lib.SmallJoins
namespace Go.Proofs.Ytgacikbjjdmcjaa
set_option linter.unusedVariables false
set_option linter.unusedSimpArgs false
open Go.ChangeShapes Go.WideShapes Go.ChangeAt Go.RowKit

def BorneIs {H : Type} (W : World) (v : Value) (d : DataW H) (x : List UInt8 × Option Addr × Nat × Int × Int × Nat) : Prop :=
  v = .agg #[.slice x.2.1 x.1.length x.2.2.1, .int .i64 x.2.2.2.1, .int .i64 x.2.2.2.2.1, .int .u16 (x.2.2.2.2.2 : Int)] ∧ x.1.length ≤ x.2.2.1 ∧ RB W x.2.1 x.1 ∧ x.2.2.2.2.2 ≤ 65535 ∧ x.1.length + 1 ≤ Rows.uptoBulk d
theorem open_borne {H : Type} {enc : TypeId × Value → H} {w : World} {r : Reach} {b0 : Nat} {v : Value} {d : DataW H} {p : List MemPlace}
    (hv : Value.okWide Try.prog w r b0 42 v) (h : DataW.Trod enc Try.prog w 0 (fun _ => true) true 42 v d p) :
    ∃ x, BorneIs w v d x := by
  obtain ⟨v0, v1, v2, v3, y0, y1, y2, y3, n, rfl, rfl, -, h0, h1, h2, h3⟩ := Joins.open_agg4 Try.underlying42 (by kernel_rfl) (by kernel_rfl) hv h
  obtain ⟨A, c, xs, rfl, hl, hr, hb⟩ := bytes_of_trod Try.underlying30 Try.underlying5 (by kernel_rfl) h0
  obtain ⟨a1, rfl, _⟩ := int_of_trod Try.underlying3 h1
  obtain ⟨a2, rfl, _⟩ := int_of_trod Try.underlying3 h2
  obtain ⟨a3, rfl, hw3⟩ := int_of_trod Try.underlying22 h3
  have hz2 : 0 ≤ a3 ∧ a3 ≤ 65535 := by simpa [Lit.wf, IntKind.min, IntKind.max, IntKind.signed, IntKind.bits] using hw3
  refine ⟨(xs, A, c, a1, a2, a3.toNat), ?_, hl, hr, by show a3.toNat ≤ 65535; omega, ?_⟩
  · show _ = Value.agg #[.slice A xs.length c, .int .i64 a1, .int .i64 a2, .int .u16 ((a3.toNat : Nat) : Int)]
    rw [Int.toNat_of_nonneg hz2.1]
  · have := bulks.part_le (d := y0.1) (l := [y0.1, y1.1, y2.1, y3.1]) (by simp)
    simp only [Rows.uptoBulk]
    show xs.length + 1 ≤ _
    omega
theorem SumRowsX_walk {H : Type} {d : DataW H} (x : List UInt8 × Option Addr × Nat × Int × Int × Nat) (v : Value) (w : World) (o : BorneIs w v d x) (b : Rows.uptoBulk d ≤ 1048576) :
    Calls Try.prog 8 #[v] w fun e w' => e = .returned (.bool true) ∧ Below w.heap.size w w' := by
  obtain ⟨rfl, h1, h2, h3, h4⟩ := o
  exact SumRows_walk _ _ _ _ _ _ w h1 h2 (by omega) h3
end Go.Proofs.Ytgacikbjjdmcjaa
