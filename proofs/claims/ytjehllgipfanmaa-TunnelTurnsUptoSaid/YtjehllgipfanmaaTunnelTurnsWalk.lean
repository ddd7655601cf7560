/- The walk of TunnelTurns; its argument, opened. -/
import Derived.Test.YtjehllgipfanmaaTunnelSlips
namespace Go.Proofs.Ytjehllgipfanmaa
set_option linter.unusedVariables false
set_option linter.unusedSimpArgs false
open Go.Joins Go.ChangeShapes Go.WideShapes Go.RowKit Go.Deep

section
variable {H : Type} {enc : TypeId × Value → H} {P : Program} {w : World} {base : Nat} {spare : Nat → Bool} {held : Bool}
theorem open_nineL {t : TypeId} {f0 f1 f2 f3 f4 f5 f6 f7 f8 : Field} {c0 c1 c2 c3 c4 c5 c6 c7 c8 c9 c10 c11 c12 : Value} {fuel : Nat} {x : DataW H × List MemPlace} (hs : P.underlying t = some (.struct #[f0, f1, f2, f3, f4, f5, f6, f7, f8]))
    (ho : f0.offset = 0 ∧ f1.offset = 1 ∧ f2.offset = 2 ∧ f3.offset = 3 ∧ f4.offset = 8 ∧ f5.offset = 9 ∧ f6.offset = 10 ∧ f7.offset = 11 ∧ f8.offset = 12)
    (hk : P.cellsOf f0.type = 1 ∧ P.cellsOf f1.type = 1 ∧ P.cellsOf f2.type = 1 ∧ P.cellsOf f3.type = 5 ∧ P.cellsOf f4.type = 1 ∧ P.cellsOf f5.type = 1 ∧ P.cellsOf f6.type = 1 ∧ P.cellsOf f7.type = 1 ∧ P.cellsOf f8.type = 1)
    (hf : DataW.trod enc P w base spare held fuel t [c0, c1, c2, c3, c4, c5, c6, c7, c8, c9, c10, c11, c12] = some x) :
    ∃ (y0 y1 y2 y3 y4 y5 y6 y7 y8 : DataW H × List MemPlace) (n : Nat), x.1 = .agg [y0.1, y1.1, y2.1, y3.1, y4.1, y5.1, y6.1, y7.1, y8.1] ∧
      DataW.trod enc P w base spare held n f0.type [c0] = some y0 ∧ DataW.trod enc P w base spare held n f1.type [c1] = some y1 ∧ DataW.trod enc P w base spare held n f2.type [c2] = some y2 ∧ DataW.trod enc P w base spare held n f3.type [c3, c4, c5, c6, c7] = some y3 ∧ DataW.trod enc P w base spare held n f4.type [c8] = some y4 ∧
      DataW.trod enc P w base spare held n f5.type [c9] = some y5 ∧ DataW.trod enc P w base spare held n f6.type [c10] = some y6 ∧ DataW.trod enc P w base spare held n f7.type [c11] = some y7 ∧ DataW.trod enc P w base spare held n f8.type [c12] = some y8 := by
  obtain ⟨o0, o1, o2, o3, o4, o5, o6, o7, o8⟩ := ho
  obtain ⟨k0, k1, k2, k3, k4, k5, k6, k7, k8⟩ := hk
  obtain ⟨xs, n, _, hx, _, hlen, hg⟩ := DataW.trod_struct hs hf
  match xs, hlen with
  | [y0, y1, y2, y3, y4, y5, y6, y7, y8], _ =>
    exact ⟨y0, y1, y2, y3, y4, y5, y6, y7, y8, n, by rw [hx]; rfl, by simpa [o0, k0] using hg 0 f0 rfl, by simpa [o1, k1] using hg 1 f1 rfl, by simpa [o2, k2] using hg 2 f2 rfl, by simpa [o3, k3] using hg 3 f3 rfl, by simpa [o4, k4] using hg 4 f4 rfl,
      by simpa [o5, k5] using hg 5 f5 rfl, by simpa [o6, k6] using hg 6 f6 rfl, by simpa [o7, k7] using hg 7 f7 rfl, by simpa [o8, k8] using hg 8 f8 rfl⟩
theorem open_slip4 {r : Reach} {b0 : Nat} {t : TypeId} {f0 f1 f2 f3 : Field} {v : Value} {d : DataW H} {p : List MemPlace} (hs : P.underlying t = some (.struct #[f0, f1, f2, f3])) (hC : P.cellsOf t = 16)
    (ho : f0.offset = 0 ∧ f1.offset = 1 ∧ f2.offset = 2 ∧ f3.offset = 15) (hk : P.cellsOf f0.type = 1 ∧ P.cellsOf f1.type = 1 ∧ P.cellsOf f2.type = 13 ∧ P.cellsOf f3.type = 1)
    (hv : Value.okWide P w r b0 t v) (h : DataW.Trod enc P w base spare held t v d p) :
    ∃ (a b c0 c1 c2 c3 c4 c5 c6 c7 c8 c9 c10 c11 c12 e : Value) (y0 y1 y2 y3 : DataW H × List MemPlace) (n : Nat), v = .agg #[a, b, c0, c1, c2, c3, c4, c5, c6, c7, c8, c9, c10, c11, c12, e] ∧ d = .agg [y0.1, y1.1, y2.1, y3.1] ∧
      DataW.trod enc P w base spare held n f0.type [a] = some y0 ∧ DataW.trod enc P w base spare held n f1.type [b] = some y1 ∧ DataW.trod enc P w base spare held n f2.type [c0, c1, c2, c3, c4, c5, c6, c7, c8, c9, c10, c11, c12] = some y2 ∧ DataW.trod enc P w base spare held n f3.type [e] = some y3 := by
  obtain ⟨cs, rfl, hsz⟩ := okWide_struct hs hv
  obtain ⟨l⟩ := cs
  obtain ⟨o0, o1, o2, o3⟩ := ho
  obtain ⟨k0, k1, k2, k3⟩ := hk
  match l, hsz.trans hC with
  | [a, b, c0, c1, c2, c3, c4, c5, c6, c7, c8, c9, c10, c11, c12, e], _ =>
    obtain ⟨fuel, hf⟩ := h
    obtain ⟨xs, n, _, hx, _, hlen, hg⟩ := DataW.trod_struct hs hf
    match xs, hlen with
    | [y0, y1, y2, y3], _ =>
      simp only [Prod.mk.injEq] at hx
      exact ⟨a, b, c0, c1, c2, c3, c4, c5, c6, c7, c8, c9, c10, c11, c12, e, y0, y1, y2, y3, n, rfl, by simpa using hx.1, by simpa [Value.cells, o0, k0] using hg 0 f0 rfl, by simpa [Value.cells, o1, k1] using hg 1 f1 rfl, by simpa [Value.cells, o2, k2] using hg 2 f2 rfl, by simpa [Value.cells, o3, k3] using hg 3 f3 rfl⟩
end
/-- The argument of TunnelTurns. -/
structure Slp where
  src : Int
  dst : Int
  p : Pk
  at_ : Int
def SlipIs {H : Type} (W : World) (v : Value) (_d : DataW H) (s : Slp) : Prop := ∃ B d, v = .agg #[.int .u32 s.src, .int .u32 s.dst, .int .i64 s.p.tos, .int .i64 s.p.id, .int .i64 s.p.ttl, .int .i64 s.p.fl.proto, .int .u32 s.p.fl.src, .int .i64 s.p.fl.sp, .int .u32 s.p.fl.dst, .int .i64 s.p.fl.dp, .int .u32 s.p.seq, .int .u32 s.p.ack, .int .i64 s.p.flags, .int .i64 s.p.win, .slice B s.p.data.length d, .int .i64 s.at_] ∧ PkD W B d s.p ∧ U32s s.p ∧ U32 s.src ∧ U32 s.dst
theorem open_slip {H : Type} {enc : TypeId × Value → H} {w : World} {r : Reach} {b0 : Nat} {v : Value} {d : DataW H} {p : List MemPlace}
    (hv : Value.okWide Try.prog w r b0 51 v) (h : DataW.Trod enc Try.prog w 0 (fun _ => true) true 51 v d p) : ∃ s, SlipIs w v d s := by
  obtain ⟨a, b, c0, c1, c2, c3, c4, c5, c6, c7, c8, c9, c10, c11, c12, e, x0, x1, x2, x3, m, rfl, rfl, k0, k1, k2, k3⟩ := open_slip4 Try.underlying51 (by kernel_rfl) ⟨rfl, rfl, rfl, rfl⟩ ⟨by kernel_rfl, by kernel_rfl, by kernel_rfl, by kernel_rfl⟩ hv h
  obtain ⟨src, rfl, hsrc⟩ := int_of_trod Try.underlying23 k0
  obtain ⟨dst, rfl, hdst⟩ := int_of_trod Try.underlying23 k1
  obtain ⟨x, rfl, _⟩ := int_of_trod Try.underlying3 k3
  obtain ⟨y0, y1, y2, y3, y4, y5, y6, y7, y8, n, -, h0, h1, h2, h3, h4, h5, h6, h7, h8⟩ := open_nineL Try.underlying49 ⟨rfl, rfl, rfl, rfl, rfl, rfl, rfl, rfl, rfl⟩ ⟨by kernel_rfl, by kernel_rfl, by kernel_rfl, by kernel_rfl, by kernel_rfl, by kernel_rfl, by kernel_rfl, by kernel_rfl, by kernel_rfl⟩ k2
  obtain ⟨a0, rfl, _⟩ := int_of_trod Try.underlying3 h0
  obtain ⟨a1, rfl, _⟩ := int_of_trod Try.underlying3 h1
  obtain ⟨a2, rfl, _⟩ := int_of_trod Try.underlying3 h2
  obtain ⟨z0, z1, z2, z3, z4, m', g0, g1, g2, g3, g4⟩ := open_fiveL Try.underlying44 (by kernel_rfl) h3
  obtain ⟨b0, rfl, _⟩ := int_of_trod Try.underlying3 g0
  obtain ⟨b1, rfl, hb1⟩ := int_of_trod Try.underlying23 g1
  obtain ⟨b2, rfl, _⟩ := int_of_trod Try.underlying3 g2
  obtain ⟨b3, rfl, hb3⟩ := int_of_trod Try.underlying23 g3
  obtain ⟨b4, rfl, _⟩ := int_of_trod Try.underlying3 g4
  obtain ⟨a4, rfl, ha4⟩ := int_of_trod Try.underlying22 h4
  obtain ⟨a5, rfl, ha5⟩ := int_of_trod Try.underlying22 h5
  obtain ⟨a6, rfl, _⟩ := int_of_trod Try.underlying3 h6
  obtain ⟨a7, rfl, _⟩ := int_of_trod Try.underlying3 h7
  obtain ⟨B, e, xs, rfl, hl2, hr2, hb2⟩ := bytes_of_trod Try.underlying24 Try.underlying5 (by kernel_rfl) h8
  exact ⟨⟨src, dst, ⟨a0, a1, a2, ⟨b0, b1, b2, b3, b4⟩, a4, a5, a6, a7, xs⟩, x⟩, B, e, rfl, ⟨hl2, hr2⟩, ⟨u32_of_wf hb1, u32_of_wf hb3, u32_of_wf ha4, u32_of_wf ha5⟩, u32_of_wf hsrc, u32_of_wf hdst⟩

set_option maxRecDepth 100000 in
set_option maxHeartbeats 1600000 in
theorem TunnelTurns_walk (src dst x : Int) (p : Pk) (B : Option Addr) (d : Nat) (w : World) (hd : PkD w B d p) (hu : U32s p) (hs : U32 src) (hd2 : U32 dst) :
    Calls Try.prog 6 #[.agg #[.int .u32 src, .int .u32 dst, .int .i64 p.tos, .int .i64 p.id, .int .i64 p.ttl, .int .i64 p.fl.proto, .int .u32 p.fl.src, .int .i64 p.fl.sp, .int .u32 p.fl.dst, .int .i64 p.fl.dp, .int .u32 p.seq, .int .u32 p.ack, .int .i64 p.flags, .int .i64 p.win, .slice B p.data.length d, .int .i64 x]] w fun e w' => e = .returned (.bool true) ∧ Below w.heap.size w w' := by
  have hb0 : Below w.heap.size w (w.alloc (.cells #[.int .u32 src, .int .u32 dst, .int .i64 p.tos, .int .i64 p.id, .int .i64 p.ttl, .int .i64 p.fl.proto, .int .u32 p.fl.src, .int .i64 p.fl.sp, .int .u32 p.fl.dst, .int .i64 p.fl.dp, .int .u32 p.seq, .int .u32 p.ack, .int .i64 p.flags, .int .i64 p.win, .slice B p.data.length d, .int .i64 x] 51)) := (Below.refl _ w).alloc (Nat.le_refl _) _
  have hX : Blk (w.alloc (.cells #[.int .u32 src, .int .u32 dst, .int .i64 p.tos, .int .i64 p.id, .int .i64 p.ttl, .int .i64 p.fl.proto, .int .u32 p.fl.src, .int .i64 p.fl.sp, .int .u32 p.fl.dst, .int .i64 p.fl.dp, .int .u32 p.seq, .int .u32 p.ack, .int .i64 p.flags, .int .i64 p.win, .slice B p.data.length d, .int .i64 x] 51)) w.heap.size 51 [.int .u32 src, .int .u32 dst, .int .i64 p.tos, .int .i64 p.id, .int .i64 p.ttl, .int .i64 p.fl.proto, .int .u32 p.fl.src, .int .i64 p.fl.sp, .int .u32 p.fl.dst, .int .i64 p.fl.dp, .int .u32 p.seq, .int .u32 p.ack, .int .i64 p.flags, .int .i64 p.win, .slice B p.data.length d, .int .i64 x] := Blk.new w _ _
  go_enter Try.func6, Try.ntmps6
  go_upto_region 1 with (fail)
  generalize w.alloc (.cells #[.int .u32 src, .int .u32 dst, .int .i64 p.tos, .int .i64 p.id, .int .i64 p.ttl, .int .i64 p.fl.proto, .int .u32 p.fl.src, .int .i64 p.fl.sp, .int .u32 p.fl.dst, .int .i64 p.fl.dp, .int .u32 p.seq, .int .u32 p.ack, .int .i64 p.flags, .int .i64 p.win, .slice B p.data.length d, .int .i64 x] 51) = wa at *
  have c0 := hX.cell 0
  have c1 := hX.cell 1
  have c2 := hX.cell 2
  have c3 := hX.cell 3
  have c4 := hX.cell 4
  have c5 := hX.cell 5
  have c6 := hX.cell 6
  have c7 := hX.cell 7
  have c8 := hX.cell 8
  have c9 := hX.cell 9
  have c10 := hX.cell 10
  have c11 := hX.cell 11
  have c12 := hX.cell 12
  have c13 := hX.cell 13
  have c14 := hX.cell 14
  have c15 := hX.cell 15
  simp only [List.getElem?_cons_zero, List.getElem?_cons_succ] at c0 c1 c2 c3 c4 c5 c6 c7 c8 c9 c10 c11 c12 c13 c14 c15
  have hda := hd.below hb0
  go_wp2_with fail
  (with_reducible refine (slips_walk p B d src dst x wa hda hu hs hd2).mono ?_)
  rintro e w1 ⟨rfl, hb1⟩
  have hbb := below_call hb0 hb1
  clear c0 c1 c2 c3 c4 c5 c6 c7 c8 c9 c10 c11 c12 c13 c14 c15
  go_wp2_with fail
  go_ret
  exact ⟨rfl, hbb⟩
theorem TunnelTurnsX_walk {H : Type} {da : DataW H} (s : Slp) (v : Value) (w : World) (o : SlipIs w v da s) (_b : Rows.uptoBulk da ≤ 1048576) :
    Calls Try.prog 6 #[v] w fun e w' => e = .returned (.bool true) ∧ Below w.heap.size w w' := by
  obtain ⟨B, d, rfl, h1, h2, h3, h4⟩ := o
  exact TunnelTurns_walk s.src s.dst s.at_ s.p B d w h1 h2 h3 h4
end Go.Proofs.Ytjehllgipfanmaa
