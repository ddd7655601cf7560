/- A message as an argument, opened. -/
import Derived.Test.YtgmimindhhpkgaaFrame
import Derived.Test.YtgmimindhhpkgaaOpen
import Derived.Lib.SmallJoins
namespace Go.Proofs.Ytgmimindhhpkgaa
set_option linter.unusedVariables false
set_option linter.unusedSimpArgs false
open Go.ChangeShapes Go.WideShapes Go.ChangeAt Go.RowKit

theorem i64_of_wf {z : Int} (h : (Lit.int .i64 z).wf = true) : I64 z := by
  have : -9223372036854775808 ≤ z ∧ z ≤ 9223372036854775807 := by simpa [Lit.wf, IntKind.min, IntKind.max, IntKind.signed, IntKind.bits] using h
  exact this
def MsgIs {H : Type} (W : World) (v : Value) (d : DataW H) (m : Mg) : Prop := MgV W v m ∧ m.nums.length + 1 ≤ Rows.uptoBulk d ∧ m.data.length + 1 ≤ Rows.uptoBulk d
theorem open_msg {H : Type} {enc : TypeId × Value → H} {w : World} {r : Reach} {b0 : Nat} {v : Value} {d : DataW H} {p : List MemPlace}
    (hv : Value.okWide Try.prog w r b0 25 v) (h : DataW.Trod enc Try.prog w 0 (fun _ => true) true 25 v d p) :
    ∃ m, MsgIs w v d m := by
  obtain ⟨v0, v1, v2, y0, y1, y2, n, rfl, rfl, -, h0, h1, h2⟩ := Joins.open_agg3 Try.underlying25 (by kernel_rfl) (by kernel_rfl) hv h
  obtain ⟨k, rfl, hk⟩ := int_of_trod Try.underlying3 h0
  obtain ⟨A, n1, c, zs, rfl, rfl, hl, hr, hz, hb⟩ := nums_of_trod Try.underlying22 Try.underlying3 (by kernel_rfl) h1
  obtain ⟨B, e, xs, rfl, hl2, hr2, hb2⟩ := bytes_of_trod Try.underlying23 Try.underlying5 (by kernel_rfl) h2
  have p1 := bulks.part_le (d := y1.1) (l := [y0.1, y1.1, y2.1]) (by simp)
  have p2 := bulks.part_le (d := y2.1) (l := [y0.1, y1.1, y2.1]) (by simp)
  refine ⟨⟨k, zs, xs⟩, ⟨A, c, B, e, rfl, hl, hl2, hr, hr2, fun z hz' => i64_of_wf (hz z hz'), i64_of_wf hk⟩, ?_, ?_⟩
  · simp only [Rows.uptoBulk]
    show zs.length + 1 ≤ _
    omega
  · simp only [Rows.uptoBulk]
    show xs.length + 1 ≤ _
    omega
end Go.Proofs.Ytgmimindhhpkgaa
