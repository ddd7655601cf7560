/- Plain law: the letters between all nodes are all letters. -/
import Derived.Test.YtikichifdkgobaaFabWait
namespace Go.Proofs.Ytikichifdkgobaa
set_option linter.unusedVariables false

def sumTo : Nat → (Nat → Nat) → Nat
  | 0, _ => 0
  | n + 1, g => sumTo n g + g n
theorem sumTo_add (n : Nat) (f g : Nat → Nat) : sumTo n (fun j => f j + g j) = sumTo n f + sumTo n g := by
  induction n with
  | zero => rfl
  | succ n ih => simp only [sumTo, ih]; omega
theorem sumTo_zero (n : Nat) (g : Nat → Nat) (h : ∀ j, j < n → g j = 0) : sumTo n g = 0 := by
  induction n with
  | zero => rfl
  | succ n ih => simp only [sumTo]; rw [ih (fun j hj => h j (by omega)), h n (by omega)]
theorem sumTo_congr (n : Nat) (f g : Nat → Nat) (h : ∀ j, j < n → f j = g j) : sumTo n f = sumTo n g := by
  induction n with
  | zero => rfl
  | succ n ih => simp only [sumTo]; rw [ih (fun j hj => h j (by omega)), h n (by omega)]
theorem sumTo_one (n : Nat) (s : Int) (c : Nat) (h : 0 ≤ s ∧ s < n) : sumTo n (fun j => if s = (j : Int) then c else 0) = c := by
  induction n with
  | zero => omega
  | succ n ih =>
    simp only [sumTo]
    by_cases hs : s = (n : Int)
    · rw [sumTo_zero n _ (fun j hj => by rw [if_neg (by omega)]), if_pos hs, Nat.zero_add]
    · rw [ih (by omega), if_neg hs, Nat.add_zero]
theorem btw_cons (p : Lh × Value) (l : List (Lh × Value)) (a b : Int) : (btw (p :: l) a b).length = (if p.1.src = a then (if p.1.dst = b then 1 else 0) else 0) + (btw l a b).length := by
  unfold btw
  rw [List.length_map, List.length_map, List.filter_cons]
  by_cases h1 : p.1.src = a
  · by_cases h2 : p.1.dst = b
    · have hb : (p.1.src == a && p.1.dst == b) = true := by simp [h1, h2]
      rw [if_pos h1, if_pos h2, if_pos hb, List.length_cons]; omega
    · have hb : ¬ (p.1.src == a && p.1.dst == b) = true := by simp [h1, h2]
      rw [if_pos h1, if_neg h2, if_neg hb]; omega
  · have hb : ¬ (p.1.src == a && p.1.dst == b) = true := by simp [h1]
    rw [if_neg h1, if_neg hb]; omega
theorem sum_btw (l : List (Lh × Value)) (h : ∀ p ∈ l, (0 ≤ p.1.src ∧ p.1.src < 64) ∧ (0 ≤ p.1.dst ∧ p.1.dst < 64)) : sumTo 64 (fun f => sumTo 64 (fun t => (btw l (f : Int) (t : Int)).length)) = l.length := by
  induction l with
  | nil => exact sumTo_zero _ _ (fun j _ => sumTo_zero _ _ (fun i _ => rfl))
  | cons p l ih =>
    have hp := h p (by simp)
    have e : sumTo 64 (fun f => sumTo 64 (fun t => (btw (p :: l) (f : Int) (t : Int)).length)) = sumTo 64 (fun f => (if p.1.src = (f : Int) then 1 else 0) + sumTo 64 (fun t => (btw l (f : Int) (t : Int)).length)) := by
      refine sumTo_congr _ _ _ (fun f _ => ?_)
      have e2 : (fun t : Nat => (btw (p :: l) (f : Int) (t : Int)).length) = fun t : Nat => (if p.1.src = (f : Int) then (if p.1.dst = (t : Int) then 1 else 0) else 0) + (btw l (f : Int) (t : Int)).length := by
        funext t
        exact btw_cons p l _ _
      rw [e2, sumTo_add]
      congr 1
      by_cases hs : p.1.src = (f : Int)
      · simp only [if_pos hs]
        exact sumTo_one 64 p.1.dst 1 hp.2
      · simp only [if_neg hs]
        exact sumTo_zero _ _ (fun _ _ => rfl)
    rw [e, sumTo_add, ih (fun q hq => h q (List.mem_cons_of_mem _ hq)), sumTo_one 64 p.1.src 1 hp.1, List.length_cons]
    omega
end Go.Proofs.Ytikichifdkgobaa
