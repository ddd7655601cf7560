/- Scripts of layer 8: opened; the walk of long. -/
import Derived.Test.YtikichifdkgobaaFabBtw
import Derived.Test.YtikichifdkgobaaOpenRows
import Derived.Deep.DeepCutAuto
namespace Go.Proofs.Ytikichifdkgobaa
set_option linter.unusedVariables false
set_option linter.unusedSimpArgs false
open Go.ChangeShapes Go.WideShapes Go.RowKit

/-- One call of a script. -/
structure FOp where
  kind : Int
  src : Int
  dst : Int
  ctl : Bool
  n : Int
  bytes : List UInt8
def OpAt (w : World) (ad : Addr) (o : FOp) : Prop := ∃ B c, (∀ j u, [Value.int .i64 o.kind, .int .i64 o.src, .int .i64 o.dst, .bool o.ctl, .int .i64 o.n, .slice B o.bytes.length c][j]? = some u → w.cell? (ad.add j) = some u) ∧ o.bytes.length ≤ c ∧ RB w B o.bytes
/-- A script at A. -/
def OpsAt (w : World) (A : Option Addr) (ops : List FOp) : Prop := ∀ j (h : j < ops.length), ∃ ad, A = some ad ∧ OpAt w (ad.add (j * 6)) ops[j]
theorem OpAt.below {w w' : World} {ad : Addr} {o : FOp} (h : OpAt w ad o) (hb : Below w.heap.size w w') : OpAt w' ad o := by
  obtain ⟨B, c, h1, h2, h3⟩ := h
  exact ⟨B, c, fun j u hu => cell_keep hb (h1 j u hu), h2, h3.below hb⟩
theorem OpsAt.below {w w' : World} {A : Option Addr} {ops : List FOp} (h : OpsAt w A ops) (hb : Below w.heap.size w w') : OpsAt w' A ops := fun j hj => by
  obtain ⟨ad, e, ho⟩ := h j hj
  exact ⟨ad, e, ho.below hb⟩
/-- Bounds that all calls of a script keep. -/
def OpsLe (ops : List FOp) : Prop := ∀ o ∈ ops, o.bytes.length ≤ 1048576 ∧ (Lit.int .i64 o.n).wf = true
section
variable {H : Type} {enc : TypeId × Value → H} {w : World}
theorem op_of_trod {cs : List Value} {y : DataW H × List MemPlace} {fuel : Nat} (hf : DataW.trod enc Try.prog w 0 (fun _ => true) true fuel 31 cs = some y) :
    ∃ (o : FOp) (B : Option Addr) (c : Nat), cs = [.int .i64 o.kind, .int .i64 o.src, .int .i64 o.dst, .bool o.ctl, .int .i64 o.n, .slice B o.bytes.length c] ∧ o.bytes.length ≤ c ∧ RB w B o.bytes ∧ (Lit.int .i64 o.n).wf = true ∧ c + 1 ≤ Rows.uptoBulk y.1 := by
  obtain ⟨xs, n, _, hx, hl, hlen, hg⟩ := DataW.trod_struct Try.underlying31 hf
  have hl3 : cs.length = 6 := hl.trans (by kernel_rfl)
  match cs, hl3 with
  | [c0, c1, c2, c3, c4, c5], _ =>
    match xs, hlen with
    | [y0, y1, y2, y3, y4, y5], _ =>
      have k1 : Try.prog.cellsOf 3 = 1 := by kernel_rfl
      have k2 : Try.prog.cellsOf 29 = 1 := by kernel_rfl
      have k3 : Try.prog.cellsOf 4 = 1 := by kernel_rfl
      have g0 := hg 0 _ rfl
      have g1 := hg 1 _ rfl
      have g2 := hg 2 _ rfl
      have g3 := hg 3 _ rfl
      have g4 := hg 4 _ rfl
      have g5 := hg 5 _ rfl
      simp only [k1, k2, k3, List.drop_zero, List.drop_succ_cons, List.take_succ_cons, List.take_zero, List.getElem?_cons_zero, List.getElem?_cons_succ, List.getElem_toArray, List.getElem_cons_zero, List.getElem_cons_succ] at g0 g1 g2 g3 g4 g5
      obtain ⟨a, rfl, _⟩ := int_of_trod Try.underlying3 g0
      obtain ⟨b, rfl, _⟩ := int_of_trod Try.underlying3 g1
      obtain ⟨e, rfl, _⟩ := int_of_trod Try.underlying3 g2
      obtain ⟨x, hx3, _⟩ := DataW.trod_bool Try.underlying4 g3
      injection hx3 with hx3
      subst hx3
      obtain ⟨m, rfl, hm⟩ := int_of_trod Try.underlying3 g4
      obtain ⟨B, c, ps, rfl, hpc, hps, hbk⟩ := bytes_of_trod Try.underlying29 Try.underlying5 (by kernel_rfl) g5
      subst hx
      have p1 := bulks.part_le (d := y5.1) (l := [y0.1, y1.1, y2.1, y3.1, y4.1, y5.1]) (by simp)
      refine ⟨⟨a, b, e, x, m, ps⟩, B, c, rfl, hpc, hps, hm, ?_⟩
      simp only [List.map_cons, List.map_nil, Rows.uptoBulk] at p1 ⊢
      omega
theorem open_fops {r : Reach} {b0 : Nat} {v : Value} {d : DataW H} {p : List MemPlace} (hv : Value.okWide Try.prog w r b0 22 v) (h : DataW.Trod enc Try.prog w 0 (fun _ => true) true 22 v d p) (hbd : Rows.uptoBulk d ≤ 1048576) :
    ∃ (A : Option Addr) (c : Nat) (ops : List FOp), v = .slice A ops.length c ∧ OpsAt w A ops ∧ OpsLe ops ∧ c + 1 ≤ 1048576 ∧ ops.length ≤ c := by
  obtain ⟨A, len, cap, rfl⟩ := okWide_slice Try.underlying22 hv
  obtain ⟨fuel, hf⟩ := h
  obtain ⟨A, n, c, f, ds, hv, hnc, hdl, hbk, hj⟩ := slice_of_trod Try.underlying22 (by kernel_rfl) hf
  have hbk2 : Rows.uptoBulkAll (ds.map (·.1)) + (c - n) + 1 ≤ Rows.uptoBulk d := hbk
  have key : ∀ m, m ≤ n → ∃ ops : List FOp, ops.length = m ∧ OpsAt w A ops ∧ OpsLe ops := by
    intro m
    induction m with
    | zero => exact fun _ => ⟨[], rfl, fun j h => absurd h (Nat.not_lt_zero _), fun o h => by cases h⟩
    | succ m ih =>
      intro hm
      obtain ⟨ops, h1, h2, h3⟩ := ih (by omega)
      obtain ⟨ad, cs1, rfl, hl1, hcell, e, hd, ht1⟩ := hj m (by omega)
      obtain ⟨o, B, cb, rfl, hoc, hoB, hwf, hob⟩ := op_of_trod ht1
      have hpl := bulks.part_le (d := e.1) (l := ds.map (·.1)) (List.mem_map.2 ⟨e, List.mem_of_getElem? hd, rfl⟩)
      refine ⟨ops ++ [o], by simp [h1], fun j hjl => ?_, fun o' ho' => ?_⟩
      · by_cases hjm : j < ops.length
        · rw [List.getElem_append_left hjm]
          exact h2 j hjm
        · have hj0 : j = m := by simp at hjl; omega
          subst hj0
          rw [List.getElem_append_right (by omega)]
          refine ⟨ad, rfl, B, cb, fun i u hu => ?_, by simpa [h1] using hoc, by simpa [h1] using hoB⟩
          rw [add_add']
          have hu' : [Value.int .i64 o.kind, .int .i64 o.src, .int .i64 o.dst, .bool o.ctl, .int .i64 o.n, .slice B o.bytes.length cb][i]? = some u := by simpa [h1] using hu
          exact hcell i u hu'
      · rcases List.mem_append.1 ho' with h | h
        · exact h3 o' h
        · simp only [List.mem_singleton] at h
          subst h
          exact ⟨by omega, hwf⟩
  obtain ⟨ops, h1, h2, h3⟩ := key n (Nat.le_refl _)
  have h4 := bulks.length_le (ds.map (·.1))
  rw [List.length_map] at h4
  exact ⟨A, c, ops, by rw [h1]; exact hv, h2, h3, by omega, by omega⟩
end

set_option maxRecDepth 100000 in
set_option maxHeartbeats 1600000 in
theorem flong_any (ops : List FOp) (A : Option Addr) (c : Nat) (w : World) (hA : OpsAt w A ops) (hL : OpsLe ops) (hl : ops.length ≤ 1048576) :
    Calls Try.prog 10 #[.slice A ops.length c] w fun e w' => ∃ b, e = .returned (.bool b) ∧ (b = false → ops.length ≤ 700) ∧ Below w.heap.size w w' := by
  have HL := Lib.hid hL
  have HA := Lib.hid hA
  clear hL hA
  go_enter Try.func10, Try.ntmps10
  go_wp2_with fail
  go_loopw [3, 8] (fun n i wr => ∃ k m : Nat, k ≤ ops.length ∧ k ≤ m ∧ m ≤ 700 ∧ i = .int .i64 (k : Int) ∧ n = .int .i64 (m : Int) ∧ Below w.heap.size w wr) (fun _ i _ => ops.length - (intOf i).toNat)
  case atStart => exact ⟨0, 0, Nat.zero_le _, by omega, by omega, rfl, rfl, Below.refl _ _⟩
  case round =>
    obtain ⟨k, m, hk, hkm, hm, rfl, rfl, hb⟩ := hrel
    by_cases hlt : k < ops.length
    · obtain ⟨ad, rfl, B, cb, hcc, hcb, hB⟩ := (HA.out.below hb) k hlt
      obtain ⟨hr1, -⟩ := HL.out ops[k] (List.getElem_mem hlt)
      generalize ops[k] = o at *
      obtain ⟨kd, src, dst, ctl, nn, bytes⟩ := o
      simp only at hcc hcb hB hr1
      clear hB
      go_wp2_with (with_reducible refine wl_load rfl 31 (.tmp 10) rfl _ rfl _ _ hcc Try.underlying31 rfl (by kernel_rfl) ?_)
      have hb2 := below_al hb (.cells #[.int .i64 kd, .int .i64 src, .int .i64 dst, .bool ctl, .int .i64 nn, .slice B bytes.length cb] 31)
      · go_ret
        exact ⟨true, rfl, (fun h => by cases h), hb2⟩
      go_roundw
      case rel => exact ⟨k + 1, m + (1 + bytes.length / 64), by omega, by omega, by omega, by go_num, by go_num, below_al hb _⟩
      case measure => simp [intOf]; omega
    · go_wp2_with fail
      go_ret
      exact ⟨false, rfl, fun _ => by omega, hb⟩
end Go.Proofs.Ytikichifdkgobaa
