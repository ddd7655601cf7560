/- A region that draws its order, by an invariant: one step an operation, whatever the order. -/
import Derived.Test.YtbhdjalpkecbeaaMem
import Derived.Deep.RegionLaw
namespace Go.Proofs.Ytbhdjalpkecbeaa
section
variable {P : Program} {ops : Array Oper} {Q : Exit → Act → World → Prop} {J : (Nat → Bool) → Act → World → Prop}
/-- What the step of number k must show. -/
def StepInv (P : Program) (Q : Exit → Act → World → Prop) (ops : Array Oper) (J : (Nat → Bool) → Act → World → Prop) (k : Nat) (o : Oper) : Prop :=
  ∀ (d : Nat → Bool) (a : Act) (w : World), d k = false → (∀ e ∈ o.after.toList.filter (Region.binds .any), d e.on = true) → J d a w →
    ∀ K : Act → World → Prop, (∀ a' w', (∀ d' : Nat → Bool, d' k = true → (∀ j, j ≠ k → d' j = d j) → J d' a' w') → K a' w') →
      if Region.wanted o (yielded ops a.tmps) = true then Oper.wp P o a w K Q else K (a.put o.dst undef) w
def StepsInv (P : Program) (Q : Exit → Act → World → Prop) (ops : Array Oper) (J : (Nat → Bool) → Act → World → Prop) : Nat → List Oper → Prop
  | _, [] => True
  | k, o :: l => StepInv P Q ops J k o ∧ StepsInv P Q ops J (k + 1) l
theorem StepsInv.get : ∀ (l : List Oper) (k i : Nat) (o : Oper), StepsInv P Q ops J k l → l[i]? = some o → StepInv P Q ops J (k + i) o
  | [], _, _, _, _, h => by simp at h
  | o :: l, k, 0, o', hs, h => by
    simp only [List.getElem?_cons_zero, Option.some.injEq] at h
    subst h
    exact hs.1
  | o :: l, k, i + 1, o', hs, h => by
    have := StepsInv.get l (k + 1) i o' hs.2 (by simpa using h)
    rwa [show k + (i + 1) = k + 1 + i by omega]
/-- Every edge points back. -/
def backB (ops : Array Oper) : Bool := (List.range ops.size).all fun i => ((ops[i]?).map fun o => (o.after.toList.filter (Region.binds .any)).all fun e => e.on < i).getD true
theorem ready_nil (hb : backB ops = true) {listed : Array Bool} (hsz : listed.size = ops.size) (hr : Region.ready .any ops listed = []) : ∀ k, k < ops.size → listed.getD k false = true := by
  intro k
  induction k using Nat.strongRecOn with
  | ind k ih =>
    intro hk
    cases hd : listed.getD k false with
    | true => rfl
    | false =>
      have hmem : k ∈ Region.ready .any ops listed := by
        simp only [Region.ready, List.mem_filter, List.mem_range]
        refine ⟨hk, ?_⟩
        have h1 : listed.getD k true = false := by
          rw [Array.getD_eq_getD_getElem?] at hd ⊢
          rw [Array.getElem?_eq_getElem (by omega)] at hd ⊢
          simpa using hd
        rw [h1]
        simp only [Array.getElem?_eq_getElem hk, Option.map_some, Option.getD_some, Bool.not_false, Bool.true_and]
        rw [Array.all_eq_true']
        intro e he
        cases hbi : Region.binds .any e with
        | false => simp
        | true =>
          have hlt : e.on < k := by
            have := hb
            simp only [backB, List.all_eq_true, List.mem_range] at this
            have := this k hk
            simp only [Array.getElem?_eq_getElem hk, Option.map_some, Option.getD_some, List.all_eq_true, List.mem_filter, decide_eq_true_eq] at this
            exact this e ⟨by simpa using he, hbi⟩
          simp [ih e.on hlt (by omega)]
      rw [hr] at hmem
      cases hmem
theorem wpAny_inv (hb : backB ops = true) (hs : StepsInv P Q ops J 0 ops.toList) (hend : ∀ d a w, (∀ k, k < ops.size → d k = true) → J d a w → Q .normal a w) :
    ∀ (fuel : Nat) (listed : Array Bool) (a : Act) (w : World), listed.size = ops.size → listed.toList.count false ≤ fuel → J (fun k => listed.getD k false) a w → wpAny P .any ops Q fuel listed a w := by
  intro fuel
  induction fuel with
  | zero =>
    intro listed a w hsz hc hJ
    have hall : ∀ k, k < ops.size → listed.getD k false = true := by
      intro k hk
      have h0 := List.count_eq_zero.1 (Nat.le_zero.1 hc)
      rw [Array.getD_eq_getD_getElem?, Array.getElem?_eq_getElem (by omega), Option.getD_some]
      cases hx : listed[k]'(by omega) with
      | true => rfl
      | false => exact absurd (by rw [← hx]; simp) h0
    refine ⟨?_, hend _ a w hall hJ⟩
    simp only [Region.ready, List.filter_eq_nil_iff, List.mem_range]
    intro k hk
    have := hall k hk
    rw [Array.getD_eq_getD_getElem?, Array.getElem?_eq_getElem (by omega), Option.getD_some] at this
    simp [Array.getD_eq_getD_getElem?, Array.getElem?_eq_getElem (show k < listed.size by omega), this]
  | succ fuel ih =>
    intro listed a w hsz hc hJ
    refine ⟨fun hr => hend _ a w (ready_nil hb hsz hr) hJ, fun i hi => ?_⟩
    simp only [Region.ready, List.mem_filter, List.mem_range, Bool.and_eq_true, Bool.not_eq_true'] at hi
    obtain ⟨hk, hd, hpre⟩ := hi
    have hd0 : listed[i]'(by omega) = false := by
      rw [Array.getD_eq_getD_getElem?, Array.getElem?_eq_getElem (by omega), Option.getD_some] at hd
      exact hd
    rw [Array.getElem?_eq_getElem hk, Option.map_some, Option.getD_some, Array.all_eq_true'] at hpre
    have hst := StepsInv.get ops.toList 0 i ops[i] hs (by simp [hk])
    rw [Nat.zero_add] at hst
    refine wpOp_step (Array.getElem?_eq_getElem hk) (fun K hK => hst _ a w (by simp [Array.getD_eq_getD_getElem?, Array.getElem?_eq_getElem (show i < listed.size by omega), hd0]) ?_ hJ K (fun a' w' h' => hK a' w' (ih _ a' w' (by simpa using hsz) ?_ (h' _ ?_ ?_))))
    · intro e he
      simp only [List.mem_filter] at he
      have := hpre e (by simpa using he.1)
      simpa [he.2] using this
    · have hc' : (listed.toList.set i true).count false = listed.toList.count false - (if listed.toList[i]'(by simpa using (show i < listed.size by omega)) == false then 1 else 0) + (if true == false then 1 else 0) := List.count_set (by simpa using (show i < listed.size by omega))
      rw [Array.toList_setIfInBounds, hc']
      have h1 : 0 < listed.toList.count false := List.count_pos_iff.2 (by rw [← hd0]; simp)
      rw [if_pos (by simpa using hd0)]
      simp only [beq_iff_eq, Bool.true_eq_false, if_false]
      omega
    · simp [Array.getD_eq_getD_getElem?, show i < listed.size by omega]
    · intro j hj
      show (listed.setIfInBounds i true).getD j false = listed.getD j false
      simp only [Array.getD_eq_getD_getElem?]
      rw [Array.getElem?_setIfInBounds_ne (Ne.symm hj)]
theorem wp_region_inv {id : Nat} {a : Act} {w : World} (J : (Nat → Bool) → Act → World → Prop) (hm : P.follows .mixedOrders = true) (hb : backB ops = true) (h0 : J (fun _ => false) a w.drew) (hs : StepsInv P Q ops J 0 ops.toList)
    (hend : ∀ d a w, (∀ k, k < ops.size → d k = true) → J d a w → Q .normal a w) : (Code.region id ops true).wp P Q a w := by
  refine wp_region_any hm (wpAny_inv hb hs hend _ _ _ _ (by simp) ?_ ?_)
  · simp
  · have : (fun k => (Array.replicate ops.size false).getD k false) = fun _ => false := by
      funext k
      rw [Array.getD_eq_getD_getElem?]
      by_cases hk : k < ops.size
      · simp [hk]
      · simp [hk]
    rw [this]
    exact h0
/-- The same, the act at the beginning named. -/
theorem wp_region_inv_at {id : Nat} {a : Act} {w : World} (J : Act → (Nat → Bool) → Act → World → Prop) (hm : P.follows .mixedOrders = true) (hb : backB ops = true) (h0 : J a (fun _ => false) a w.drew) (hs : StepsInv P Q ops (J a) 0 ops.toList)
    (hend : ∀ d a' w', (∀ k, k < ops.size → d k = true) → J a d a' w' → Q .normal a' w') : (Code.region id ops true).wp P Q a w := wp_region_inv (J a) hm hb h0 hs hend
end
end Go.Proofs.Ytbhdjalpkecbeaa
