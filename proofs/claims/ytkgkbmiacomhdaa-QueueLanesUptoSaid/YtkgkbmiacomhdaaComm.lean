/- Channels in one goroutine inside the kit's weakest preconditions: a region that bears a select of one case with a default. -/
import Derived.Conc.LoneSelect
import Derived.WalkKit
namespace Go.Proofs.Ytkgkbmiacomhdaa
set_option linter.unusedVariables false
set_option linter.unusedSimpArgs false
open Go.RowKit Go.Conc

/-- From within a region, at the operations l, the walk arrives at Q. -/
def OpsTo (P : Program) (ops : Array Oper) (Q : Exit → Act → World → Prop) (l : List Nat) (a : Act) (w : World) : Prop :=
  ∀ (b : Frame) (k : List Item) (cs : List Frame), ∃ e a' w', Q e a' w' ∧ Arrives P (lone (b.at a (.inRegion ops l :: k)) cs w) b k cs e a' w'
section
variable {P : Program} {ops : Array Oper} {Q : Exit → Act → World → Prop} {a : Act} {w : World}
theorem opsTo_of {l : List Nat} (h : wpOps P ops Q l a w) : OpsTo P ops Q l a w := wp_ops l a w h
theorem opsTo_list (l : List Oper) (k : Nat) (hl : ∀ j, l[j]? = ops[k + j]?) (h : wpList P ops Q l a w) : OpsTo P ops Q (List.range' k l.length) a w :=
  opsTo_of (by rw [wpOps_eq_wpList l k hl]; exact h)
theorem wp_region_to {id : Nat} (h : OpsTo P ops Q (List.range ops.size) a w) : (Code.region id ops false).wp P Q a w :=
  fun b k cs => let ⟨e, a', w', q, r⟩ := h b k cs; ⟨e, a', w', q, .of_steps (.one step_region) r⟩
/-- One operation that yields a value. -/
theorem opsTo_value {i : Nat} {rest : List Nat} {o : Oper} {v : Value} {w' : World} (ho : ops[i]? = some o) (hw : Region.wanted o (yielded ops a.tmps) = true)
    (hr : (execOp a.eval o).run P w = .ok (.value v) w') (h : OpsTo P ops Q rest (a.put o.dst v) w') : OpsTo P ops Q (i :: rest) a w := by
  intro b k cs
  obtain ⟨e, a', w'', hq, harr⟩ := h b k cs
  refine ⟨e, a', w'', hq, .of_steps (.one (step_lone_go ?_)) harr⟩
  have hfin : (b.at a (.inRegion ops (i :: rest) :: k)).finish v = b.at (a.put o.dst v) (.inRegion ops rest :: k) := by
    rw [Frame.finish_at, ho]; rfl
  rw [stepG_op ho hw, ← hfin]
  simp [stepG.apply, hr]
/-- A call of a function that returns. -/
theorem opsTo_call {i : Nat} {rest : List Nat} {o : Oper} {f : FuncId} {args : Array Value} {w' : World} (ho : ops[i]? = some o) (hw : Region.wanted o (yielded ops a.tmps) = true)
    (hr : (execOp a.eval o).run P w = .ok (.enter f args) w') (h : Calls P f args w' fun e w'' => ∃ v, e = .returned v ∧ OpsTo P ops Q rest (a.put o.dst v) w'') : OpsTo P ops Q (i :: rest) a w := by
  intro b k cs
  obtain ⟨e, w'', fr, ⟨v, rfl, hR⟩, hsteps, _, hleave⟩ := h (b.at a (.inRegion ops (i :: rest) :: k) :: cs)
  obtain ⟨e, a', w₃, hq, harr⟩ := hR b k cs
  have hfin : (b.at a (.inRegion ops (i :: rest) :: k)).finish v = b.at (a.put o.dst v) (.inRegion ops rest :: k) := by
    rw [Frame.finish_at, ho]; rfl
  have henter : step P (lone (b.at a (.inRegion ops (i :: rest) :: k)) cs w) = .next (lone (Frame.enter P f args .normal) (b.at a (.inRegion ops (i :: rest) :: k) :: cs) w') :=
    step_lone_go (by rw [stepG_op ho hw]; simp [stepG.apply, hr, Frame.at])
  refine ⟨e, a', w₃, hq, .of_steps (.head henter (Steps.trans hsteps (.one ?_))) harr⟩
  rw [← hfin]
  exact step_leave_returned hleave
/-- A communication, whatever the frame's kind. -/
theorem stepG_commA {b : Frame} {k : List Item} {cs : List Frame} {i : Nat} {rest : List Nat} {o : Oper} {cases : Array CommCase} {blocking : Bool} {shape : CommShape} {w' : World} (ho : ops[i]? = some o) (hw : Region.wanted o (yielded ops a.tmps) = true)
    (hr : (execOp a.eval o).run P w = .ok (.comm cases blocking shape) w') :
    ∃ es, stepG P true (G (b.at a (.inRegion ops (i :: rest) :: k)) cs) w = .comm (G (b.at a (.inRegion ops (i :: rest) :: k)) cs) cases blocking shape w' es := by
  rw [Go.Conc.stepG_oper ho hw]
  simp [stepG.apply, hr, G, Frame.at, GStep.after]
theorem opsTo_comm {i : Nat} {rest : List Nat} {o : Oper} {cases : Array CommCase} {blocking : Bool} {shape : CommShape} {w₁ w₂ : World} {v : Value} (ho : ops[i]? = some o) (hw : Region.wanted o (yielded ops a.tmps) = true)
    (hr : (execOp a.eval o).run P w = .ok (.comm cases blocking shape) w₁)
    (hstep : ∀ (fr : Frame) (cs : List Frame) es, stepG P true (G fr cs) w = .comm (G fr cs) cases blocking shape w₁ es → step P (solo (G fr cs) w) = .next (solo (G (fr.finish v) cs) w₂))
    (h : OpsTo P ops Q rest (a.put o.dst v) w₂) : OpsTo P ops Q (i :: rest) a w := by
  intro b k cs
  obtain ⟨e, a', w'', hq, harr⟩ := h b k cs
  obtain ⟨es, hes⟩ := stepG_commA (b := b) (k := k) (cs := cs) (rest := rest) ho hw hr
  have hs := hstep _ _ _ hes
  have hfin : (b.at a (.inRegion ops (i :: rest) :: k)).finish v = b.at (a.put o.dst v) (.inRegion ops rest :: k) := by
    rw [Frame.finish_at, ho]; rfl
  rw [hfin] at hs
  exact ⟨e, a', w'', hq, .of_steps (.one hs) harr⟩
/-- A region whose first operation is a communication; the rest by the kit's list. -/
theorem wp_region_comm {id : Nat} {o : Oper} {l : List Oper} {cases : Array CommCase} {blocking : Bool} {shape : CommShape} {w₁ w₂ : World} {v : Value} (hg : o.guard = none)
    (hr : (execOp a.eval o).run P w = .ok (.comm cases blocking shape) w₁)
    (hstep : ∀ (fr : Frame) (cs : List Frame) es, stepG P true (G fr cs) w = .comm (G fr cs) cases blocking shape w₁ es → step P (solo (G fr cs) w) = .next (solo (G (fr.finish v) cs) w₂))
    (h : wpList P (o :: l).toArray Q l (a.put o.dst v) w₂) : (Code.region id (o :: l).toArray false).wp P Q a w := by
  refine wp_region_to ?_
  have e : List.range (o :: l).toArray.size = 0 :: List.range' 1 l.length := by
    rw [List.size_toArray, List.length_cons, List.range_eq_range', List.range'_succ]
  rw [e]
  refine opsTo_comm (o := o) (by simp) (by simp [Region.wanted, hg]) hr hstep ?_
  exact opsTo_list l 1 (fun j => by simp [Nat.add_comm 1 j]) h
theorem ext1 (v : Value) (vs : List Value) : (v :: vs).toArray.extract 1 (v :: vs).toArray.size = vs.toArray := by simp
/-- A select of one receive with a default: something is there. -/
theorem wp_select_get {id : Nat} {o : Oper} {l : List Oper} {c cap s r : Nat} {z v : Value} {vs : List Value} {closed tm : Bool} (hg : o.guard = none)
    (hr : (execOp a.eval o).run P w = .ok (.comm #[rcase c z] false .select) w) (hc : w.heap[c]? = some (.chan cap (v :: vs).toArray closed s r tm))
    (h : wpList P (o :: l).toArray Q l (a.put o.dst (.tuple #[goInt 0, .bool true, v])) (w.setChan c cap vs.toArray closed s (r + 1) tm)) : (Code.region id (o :: l).toArray false).wp P Q a w :=
  wp_region_comm hg hr (fun fr cs es hes => by
    have hs := step_lone_select_recv_buf hes hc (by simp)
    rw [ext1] at hs
    simpa using hs) h
/-- .. nothing is there. -/
theorem wp_select_none {id : Nat} {o : Oper} {l : List Oper} {c cap s r : Nat} {z : Value} {tm : Bool} (hg : o.guard = none)
    (hr : (execOp a.eval o).run P w = .ok (.comm #[rcase c z] false .select) w) (hc : w.heap[c]? = some (.chan cap #[] false s r tm))
    (h : wpList P (o :: l).toArray Q l (a.put o.dst (.tuple #[goInt (-1), .bool false, z])) w) : (Code.region id (o :: l).toArray false).wp P Q a w :=
  wp_region_comm hg hr (fun fr cs es hes => step_lone_select_default hes hc) h
/-- A select of one send with a default: there is room. -/
theorem wp_select_put {id : Nat} {o : Oper} {l : List Oper} {c cap s r : Nat} {x z : Value} {vs : List Value} {tm : Bool} (hg : o.guard = none)
    (hr : (execOp a.eval o).run P w = .ok (.comm #[scase c x z] false .select) w) (hc : w.heap[c]? = some (.chan cap vs.toArray false s r tm)) (hroom : vs.length < cap)
    (h : wpList P (o :: l).toArray Q l (a.put o.dst (.tuple #[goInt 0, .bool false])) (w.setChan c cap (vs ++ [x]).toArray false (s + 1) r tm)) : (Code.region id (o :: l).toArray false).wp P Q a w :=
  wp_region_comm hg hr (fun fr cs es hes => by
    have hs := step_lone_select_send_room hes hc (by simpa using hroom)
    simpa using hs) h
/-- .. there is none. -/
theorem wp_select_full {id : Nat} {o : Oper} {l : List Oper} {c cap s r : Nat} {x z : Value} {vs : List Value} {tm : Bool} (hg : o.guard = none)
    (hr : (execOp a.eval o).run P w = .ok (.comm #[scase c x z] false .select) w) (hc : w.heap[c]? = some (.chan cap vs.toArray false s r tm)) (hfull : cap ≤ vs.length)
    (h : wpList P (o :: l).toArray Q l (a.put o.dst (.tuple #[goInt (-1), .bool false])) w) : (Code.region id (o :: l).toArray false).wp P Q a w :=
  wp_region_comm hg hr (fun fr cs es hes => step_lone_select_send_full hes hc (by simpa using hfull)) h
end
end Go.Proofs.Ytkgkbmiacomhdaa
