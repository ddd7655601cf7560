/- Worlds of which some blocks alone differ; rows of any size; rows of bytes that the call owns. -/
import Derived.Test.YtikichifdkgobaaGrow
namespace Go.Proofs.Ytikichifdkgobaa
set_option linter.unusedVariables false
set_option linter.unusedSimpArgs false
open Go.RowKit

/-- Blocks of which S does not speak are as they were. -/
def Chg (w w' : World) (S : Nat → Prop) : Prop := w'.os = w.os ∧ w'.tape = w.tape ∧ w'.output = w.output ∧ w.heap.size ≤ w'.heap.size ∧ ∀ k, k < w.heap.size → ¬ S k → w'.heap[k]? = w.heap[k]?
theorem Chg.refl (w : World) (S : Nat → Prop) : Chg w w S := ⟨rfl, rfl, rfl, Nat.le_refl _, fun _ _ _ => rfl⟩
theorem Chg.of {w w' : World} {row : Option Nat} {S : Nat → Prop} (h : w.grownBy w' row) (hs : ∀ b, row = some b → S b) : Chg w w' S :=
  ⟨h.os, h.tape, h.output, h.size, fun k hk hn => h.block k hk (fun e => hn (hs k e.symm))⟩
theorem Chg.of_below {w w' : World} {S : Nat → Prop} (h : Below w.heap.size w w') : Chg w w' S := ⟨h.os, h.tape, h.output, h.size, fun k hk _ => h.block k hk⟩
theorem Chg.trans {w w' w2 : World} {S : Nat → Prop} (h : Chg w w' S) (h2 : Chg w' w2 S) : Chg w w2 S :=
  ⟨h2.1.trans h.1, h2.2.1.trans h.2.1, h2.2.2.1.trans h.2.2.1, Nat.le_trans h.2.2.2.1 h2.2.2.2.1, fun k hk hn => (h2.2.2.2.2 k (Nat.lt_of_lt_of_le hk h.2.2.2.1) hn).trans (h.2.2.2.2 k hk hn)⟩
theorem Chg.mono {w w' : World} {S T : Nat → Prop} (h : Chg w w' S) (hs : ∀ b, b < w.heap.size → S b → T b) : Chg w w' T := ⟨h.1, h.2.1, h.2.2.1, h.2.2.2.1, fun k hk hn => h.2.2.2.2 k hk (fun e => hn (hs k hk e))⟩
/-- What comes behind may touch new blocks freely. -/
theorem Chg.then_ {w w' w2 : World} {S T : Nat → Prop} (h : Chg w w' S) (h2 : Chg w' w2 T) (hs : ∀ b, b < w.heap.size → T b → S b) : Chg w w2 S :=
  ⟨h2.1.trans h.1, h2.2.1.trans h.2.1, h2.2.2.1.trans h.2.2.1, Nat.le_trans h.2.2.2.1 h2.2.2.2.1, fun k hk hn => (h2.2.2.2.2 k (Nat.lt_of_lt_of_le hk h.2.2.2.1) (fun e => hn (hs k hk e))).trans (h.2.2.2.2 k hk hn)⟩
theorem Chg.fresh {w w' w2 : World} {row : Option Nat} {S : Nat → Prop} (h : Chg w w' S) (h2 : w'.grownBy w2 row) (hs : ∀ b, row = some b → b < w.heap.size → S b) : Chg w w2 S :=
  h.then_ (T := fun b => row = some b) (Chg.of h2 (fun b hb => hb)) (fun b hb e => hs b e hb)
theorem Chg.below {w w' : World} {S : Nat → Prop} {B : Nat} (h : Chg w w' S) (hb : B ≤ w.heap.size) (hs : ∀ k, S k → B ≤ k) : Below B w w' :=
  ⟨h.1, h.2.1, h.2.2.1, h.2.2.2.1, fun k hk => h.2.2.2.2 k (Nat.lt_of_lt_of_le hk hb) (fun e => by have := hs k e; omega)⟩
theorem Chg.blk {w w' : World} {S : Nat → Prop} {g : Nat} {t : TypeId} {cs : List Value} (h : Chg w w' S) (hb : Blk w g t cs) (hn : ¬ S g) : Blk w' g t cs := (h.2.2.2.2 g hb.lt hn).trans hb
theorem Chg.row {w w' : World} {S : Nat → Prop} {base n size : Nat} {e : TypeId} {v : Value} {xs : List Value} (h : Chg w w' S) (ho : w.ownsRow base e size v n xs) (hn : ∀ b, v.ownBlock = some b → ¬ S b) : w'.ownsRow base e size v n xs := by
  refine ⟨ho.1, ?_⟩
  rcases ho.2 with h0 | ⟨g, cap, cur, rfl, hb, hg, r⟩
  · exact .inl h0
  · refine .inr ⟨g, cap, cur, rfl, hb, ?_, r⟩
    rw [h.2.2.2.2 g (Array.getElem?_eq_some_iff.1 hg).1 (hn g rfl), hg]
theorem Chg.cell {w w' : World} {S : Nat → Prop} {p : Addr} {u : Value} (h : Chg w w' S) (hc : w.cell? p = some u) (hn : ¬ S p.block) : w'.cell? p = some u := by
  have hb := h.2.2.2.2 p.block (World.block_lt_of_cell? w p hc) hn
  rw [← hc]
  simp only [World.cell?, hb]
theorem Chg.rc {w w' : World} {S : Nat → Prop} {A : Option Addr} {cs : List Value} (h : Chg w w' S) (hc : RC w A cs) (hn : ∀ ad, A = some ad → ¬ S ad.block) : RC w' A cs := fun j u hu => by
  obtain ⟨ad, e, hcell⟩ := hc j u hu
  exact ⟨ad, e, h.cell hcell (by rw [add_block]; exact hn ad e)⟩
theorem below_dn (w : World) (n : Nat) : Below w.heap.size w (w.drewN n) := ⟨rfl, rfl, rfl, Nat.le_refl _, fun _ _ => rfl⟩
theorem below_drewN {B : Nat} {w w' : World} (h : Below B w w') (n : Nat) : Below B w (w'.drewN n) := ⟨h.os, h.tape, h.output, h.size, h.block⟩
theorem grown_of_below {w w' : World} {row : Option Nat} (h : Below w.heap.size w w') : w.grownBy w' row := ⟨h.os, h.tape, h.output, h.size, fun k hk _ => h.block k hk⟩
theorem own_blk_ne {w : World} {base g n size : Nat} {e t : TypeId} {v : Value} {xs cs : List Value} (h : w.ownsRow base e size v n xs) (hb : Blk w g t cs) (hne : e ≠ t) : ∀ b, v.ownBlock = some b → b ≠ g := by
  intro b hv e
  subst e
  rcases h.2 with ⟨rfl, _⟩ | ⟨g, cap, cur, rfl, _, hg, _⟩
  · cases hv
  simp only [Value.ownBlock, Option.some.injEq] at hv
  subst hv
  unfold Blk at hb
  rw [hg] at hb
  injection hb with hb
  injection hb with _ ht
  exact hne ht
theorem own_not_types {w : World} {base base' n n' size size' : Nat} {e e' : TypeId} {v v' : Value} {xs xs' : List Value} (h : w.ownsRow base e size v n xs) (h' : w.ownsRow base' e' size' v' n' xs') (hne : e ≠ e') : ∀ b, v.ownBlock = some b → v'.ownBlock ≠ some b := by
  intro b hb hb'
  rcases h.2 with ⟨rfl, _⟩ | ⟨g, cap, cur, rfl, _, hg, _⟩
  · cases hb
  rcases h'.2 with ⟨rfl, _⟩ | ⟨g', cap', cur', rfl, _, hg', _⟩
  · cases hb'
  simp only [Value.ownBlock, Option.some.injEq] at hb hb'
  subst hb hb'
  rw [hg] at hg'
  injection hg' with hg'
  injection hg' with _ ht
  exact hne ht
theorem blk_ne_blk {w : World} {g g' : Nat} {t t' : TypeId} {cs cs' : List Value} (h : Blk w g t cs) (h' : Blk w g' t' cs') (hne : t ≠ t') : g ≠ g' := by
  rintro rfl
  unfold Blk at h h'
  rw [h] at h'
  injection h' with h'
  injection h' with _ ht
  exact hne ht
theorem set_row {w : World} {g i base n size : Nat} {e t : TypeId} {v u : Value} {xs cs : List Value} (h : w.ownsRow base e size v n xs) (hb : Blk w g t cs) (hne : e ≠ t) : (w.setCell ⟨g, i, none⟩ u).ownsRow base e size v n xs :=
  h.kept (grown_set w g i u) (by
    cases hv : v.ownBlock with
    | none => exact .inl rfl
    | some b => exact .inr (fun e => own_blk_ne h hb hne b hv (by injection e)))
/-- What stands at the head of an owned row, of whatever size. -/
theorem own_formS {w : World} {base : Nat} {e : TypeId} {n size : Nat} {v : Value} {xs : List Value} (h : w.ownsRow base e size v n xs) : ∃ A c, v = .slice A n c ∧ n ≤ c ∧ xs.length = n * size ∧ (A = none → n = 0) := by
  have hl := h.1
  rcases h.2 with ⟨rfl, h0⟩ | ⟨g, cap, cur, rfl, _, _, hn, _⟩
  · subst h0
    exact ⟨none, 0, rfl, Nat.le_refl _, hl, fun _ => rfl⟩
  · exact ⟨_, cap, rfl, hn, hl, (fun e => by cases e)⟩
theorem RC.of_ownS {w : World} {base : Nat} {e : TypeId} {A : Option Addr} {n c k size : Nat} {xs : List Value} (h : w.ownsRow base e size (.slice A n c) k xs) : RC w A xs := fun j u hu => by
  rcases h.2 with ⟨hv, h0⟩ | ⟨g, cap, cur, hv, _⟩
  · have : xs = [] := List.eq_nil_of_length_eq_zero (by rw [h.1, h0, Nat.zero_mul])
    subst this; simp at hu
  · injection hv with hA
    subst hA
    exact ⟨_, rfl, h.cells (g := g) rfl j u hu⟩

/-- Rows of bytes that the call owns. -/
structure Ows (w : World) (base : Nat) (vs : List Value) (xs : List (List UInt8)) : Prop where
  len : vs.length = xs.length
  own : ∀ (j : Nat) v x, vs[j]? = some v → xs[j]? = some x → w.ownsRow base 5 1 v x.length (x.map bv)
theorem Ows.nil (w : World) (base : Nat) : Ows w base [] [] := ⟨rfl, fun j v x h => by simp at h⟩
theorem Ows.mem {w : World} {base : Nat} {vs : List Value} {xs : List (List UInt8)} (h : Ows w base vs xs) {v : Value} (hv : v ∈ vs) : ∃ x : List UInt8, w.ownsRow base 5 1 v x.length (x.map bv) := by
  obtain ⟨j, hj⟩ := List.getElem?_of_mem hv
  have hl : j < xs.length := by rw [← h.len]; exact (List.getElem?_eq_some_iff.1 hj).1
  exact ⟨_, h.own j v _ hj (List.getElem?_eq_getElem hl)⟩
theorem Ows.below {w w' : World} {base : Nat} {vs : List Value} {xs : List (List UInt8)} (h : Ows w base vs xs) (hb : Below w.heap.size w w') : Ows w' base vs xs := ⟨h.len, fun j v x hv hx => own_below (h.own j v x hv hx) hb⟩
theorem Ows.chg {w w' : World} {S : Nat → Prop} {base : Nat} {vs : List Value} {xs : List (List UInt8)} (h : Ows w base vs xs) (hc : Chg w w' S) (hn : ∀ v ∈ vs, ∀ b, v.ownBlock = some b → ¬ S b) : Ows w' base vs xs :=
  ⟨h.len, fun j v x hv hx => hc.row (h.own j v x hv hx) (hn v (List.mem_of_getElem? hv))⟩
theorem Ows.weaken {w : World} {base base' : Nat} {vs : List Value} {xs : List (List UInt8)} (h : Ows w base vs xs) (hb : base' ≤ base) : Ows w base' vs xs := ⟨h.len, fun j v x hv hx => own_weaken (h.own j v x hv hx) hb⟩
theorem Ows.append {w : World} {base : Nat} {vs us : List Value} {xs ys : List (List UInt8)} (h : Ows w base vs xs) (h2 : Ows w base us ys) : Ows w base (vs ++ us) (xs ++ ys) := by
  have hl := h.len
  refine ⟨by rw [List.length_append, List.length_append, h.len, h2.len], fun j v x hv hx => ?_⟩
  by_cases hj : j < vs.length
  · rw [List.getElem?_append_left hj] at hv
    rw [List.getElem?_append_left (by omega)] at hx
    exact h.own j v x hv hx
  · rw [List.getElem?_append_right (by omega)] at hv
    rw [List.getElem?_append_right (by omega), ← hl] at hx
    exact h2.own _ v x hv hx
theorem Ows.one {w : World} {base : Nat} {v : Value} {x : List UInt8} (h : w.ownsRow base 5 1 v x.length (x.map bv)) : Ows w base [v] [x] :=
  ⟨rfl, fun j u y hu hy => by
    match j, hu, hy with
    | 0, hu, hy => simp at hu hy; subst hu hy; exact h⟩
theorem Ows.take {w : World} {base : Nat} {vs : List Value} {xs : List (List UInt8)} (h : Ows w base vs xs) (i : Nat) : Ows w base (vs.take i) (xs.take i) :=
  ⟨by rw [List.length_take, List.length_take, h.len], fun j v x hv hx => by
    rw [List.getElem?_take] at hv hx
    split at hv
    · rename_i hj
      rw [if_pos hj] at hx
      exact h.own j v x hv hx
    · cases hv⟩
theorem Ows.drop {w : World} {base : Nat} {vs : List Value} {xs : List (List UInt8)} (h : Ows w base vs xs) (i : Nat) : Ows w base (vs.drop i) (xs.drop i) :=
  ⟨by rw [List.length_drop, List.length_drop, h.len], fun j v x hv hx => by
    rw [List.getElem?_drop] at hv hx
    exact h.own _ v x hv hx⟩
end Go.Proofs.Ytikichifdkgobaa
