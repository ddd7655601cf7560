/- The walk of towpathnum.Apart: rows that lie apart are told to be so, and nothing else is written. -/
import Derived.Test.YtkgkbmiacomhdaaGrow
import Derived.Test.YtkgkbmiacomhdaaU8
import Derived.WalkSpells
import Derived.Deep.CutBlock
import Derived.Deep.DeepCutAuto

namespace Go.Proofs.Ytkgkbmiacomhdaa
set_option linter.unusedVariables false
set_option linter.unusedSimpArgs false
open Go.RowKit

/-- The mark at a place. -/
def mrk (k j : Nat) : UInt8 := UInt8.ofNat (31 * k + 7 * j + 1)
def mrks (k n : Nat) : List UInt8 := (List.range n).map (mrk k)
theorem mrks_len (k n : Nat) : (mrks k n).length = n := by simp [mrks]
theorem mrks_succ (k n : Nat) : mrks k (n + 1) = mrks k n ++ [mrk k n] := by simp [mrks, List.range_succ]
theorem mrks_at (k n j : Nat) (h : j < n) : (mrks k n)[j]? = some (mrk k j) := by simp [mrks, h]
theorem mrk_nat (k j : Nat) : ((mrk k j).toNat : Int) = (31 * (k : Int) + 7 * (j : Int) + 1) % 256 := by
  unfold mrk; rw [UInt8.toNat_ofNat']; omega
/-- Values at A. -/
def RV (w : World) (A : Option Addr) (N : Nat) (v : Nat → Value) : Prop := ∀ k, k < N → ∃ ad, A = some ad ∧ w.cell? (ad.add k) = some (v k)
theorem RV.grown {w w' : World} {A : Option Addr} {N : Nat} {v : Nat → Value} {row : Option Nat} (h : RV w A N v) (hg : w.grownBy w' row) (hne : ∀ ad, A = some ad → some ad.block ≠ row) : RV w' A N v := fun k hk => by
  obtain ⟨ad, e, hc⟩ := h k hk
  refine ⟨ad, e, ?_⟩
  rw [hg.cell_far (ad.add k) (World.block_lt_of_cell? w _ hc) (by rw [add_block]; exact hne ad e)]
  exact hc
theorem RV.below {w w' : World} {A : Option Addr} {N : Nat} {v : Nat → Value} (h : RV w A N v) (hb : Below w.heap.size w w') : RV w' A N v := fun k hk => by
  obtain ⟨ad, e, hc⟩ := h k hk
  exact ⟨ad, e, cell_keep hb hc⟩
/-- Rows apart: each its own block, none the block of their own array. -/
structure Apt (A : Option Addr) (N : Nat) (v : Nat → Value) : Prop where
  dis : ∀ i j, i < N → j < N → i ≠ j → (v i).ownBlock = none ∨ (v i).ownBlock ≠ (v j).ownBlock
  arr : ∀ ad, A = some ad → ∀ k, k < N → some ad.block ≠ (v k).ownBlock
/-- What the rows hold behind k rounds of the first loop. -/
def S1 (base : Nat) (N : Nat) (v : Nat → Value) (n : Nat → Nat) (k : Nat) (w : World) : Prop :=
  ∀ j, j < N → ∃ xs, w.ownsRow base 5 1 (v j) (n j) xs ∧ (j < k → xs = (mrks j (n j)).map bv)
theorem S1.step {base N k : Nat} {v : Nat → Value} {n : Nat → Nat} {A : Option Addr} {w w' : World} (h : S1 base N v n k w) (hap : Apt A N v) (hk : k < N) (hg : w.grownBy w' (v k).ownBlock)
    (hown : w'.ownsRow base 5 1 (v k) (n k) ((mrks k (n k)).map bv)) : S1 base N v n (k + 1) w' := fun j hj => by
  by_cases e : j = k
  · subst e; exact ⟨_, hown, fun _ => rfl⟩
  · obtain ⟨xs, h1, h2⟩ := h j hj
    exact ⟨xs, h1.kept hg (hap.dis j k hj hk e), fun hjk => h2 (by omega)⟩
theorem marks_eq {ys : List Value} {k n : Nat} (hl : ys.length = n) (h : ∀ i, i < n → ys[i]? = some (bv (mrk k i))) : ys = (mrks k n).map bv := by
  apply List.ext_getElem?
  intro i
  by_cases hi : i < n
  · rw [h i hi, List.getElem?_map, mrks_at k n i hi]; rfl
  · rw [List.getElem?_eq_none (by omega), List.getElem?_eq_none (by simp [mrks_len]; omega)]

theorem S1.whole {base N : Nat} {v : Nat → Value} {n : Nat → Nat} {w : World} (h : S1 base N v n N w) (j : Nat) (hj : j < N) : w.ownsRow base 5 1 (v j) (n j) ((mrks j (n j)).map bv) := by
  obtain ⟨xs, h1, h2⟩ := h j hj
  rw [← h2 hj]; exact h1

/-- What is said of a grown row and of the row that it was grown of. -/
def Fin2 (w : World) (H2 : Nat) (v : Nat → Value) (n : Nat → Nat) (vg : Value) (j : Nat) (g : Value) : Prop :=
  ∃ B cB C cC, g = .slice B (n j + 12) cB ∧ n j + 12 ≤ cB ∧ v j = .slice C (n j) cC ∧ n j ≤ cC ∧ RB w B (mrks j (n j + 12)) ∧ RB w C (mrks j (n j)) ∧
    (g.ownBlock = (v j).ownBlock ∨ ∃ b, g.ownBlock = some b ∧ H2 ≤ b) ∧ (∃ b, g.ownBlock = some b ∧ b < w.heap.size ∧ some b ≠ vg.ownBlock)
/-- What holds behind k rounds of the second loop. -/
structure S2 (base H2 N : Nat) (A : Option Addr) (v : Nat → Value) (n : Nat → Nat) (w0 : World) (k : Nat) (vg : Value) (w : World) : Prop where
  own : ∀ j, k ≤ j → j < N → w.ownsRow base 5 1 (v j) (n j) ((mrks j (n j)).map bv)
  gs : ∃ gs : List Value, gs.length = k ∧ w.ownsRow base 42 1 vg k gs ∧ ∀ j g, gs[j]? = some g → Fin2 w H2 v n vg j g
  vgH : ∀ b, vg.ownBlock = some b → H2 ≤ b
  vH : ∀ j, j < N → ∀ b, (v j).ownBlock = some b → b < H2
  aH : ∀ ad, A = some ad → 0 < N → ad.block < H2
  rv : RV w A N v
  bel : Below base w0 w
  hsz : H2 ≤ w.heap.size
  hb : base ≤ H2
theorem info_bs : (Try.prog.info? 42).map (fun i => (i.zero, i.size, i.bytes)) = some (some (.slice none 0 0), 1, 24) := by kernel_rfl
theorem some_block {B : Option Addr} {m c b : Nat} (h : (Value.slice B m c).ownBlock = some b) : ∃ ad, B = some ad ∧ ad.block = b := by
  cases B with
  | none => cases h
  | some ad => injection h with h; exact ⟨ad, rfl, h⟩
theorem Fin2.grown {w w' : World} {H2 : Nat} {v : Nat → Value} {n : Nat → Nat} {vg : Value} {j : Nat} {g : Value} {row : Option Nat} (h : Fin2 w H2 v n vg j g) (hg : w.grownBy w' row)
    (h1 : g.ownBlock ≠ row) (h2 : ∀ b, (v j).ownBlock = some b → some b ≠ row) : Fin2 w' H2 v n vg j g := by
  obtain ⟨B, cB, C, cC, rfl, e1, e2, e3, e4, e5, e6, b, e7, e8, e9⟩ := h
  refine ⟨B, cB, C, cC, rfl, e1, e2, e3, e4.grown hg (fun ad e => ?_), e5.grown hg (fun ad e => ?_), e6, b, e7, by have := hg.size; omega, e9⟩
  · subst e; exact h1
  · subst e; exact h2 _ (by rw [e2]; rfl)
theorem Fin2.vg {w : World} {H2 : Nat} {v : Nat → Value} {n : Nat → Nat} {vg vg' : Value} {j : Nat} {g : Value} (h : Fin2 w H2 v n vg j g) (he : vg'.ownBlock = vg.ownBlock ∨ ∃ b, vg'.ownBlock = some b ∧ w.heap.size ≤ b) : Fin2 w H2 v n vg' j g := by
  obtain ⟨B, cB, C, cC, rfl, e1, e2, e3, e4, e5, e6, b, e7, e8, e9⟩ := h
  refine ⟨B, cB, C, cC, rfl, e1, e2, e3, e4, e5, e6, b, e7, e8, ?_⟩
  rcases he with he | ⟨b', he, hb'⟩
  · rw [he]; exact e9
  · rw [he]; intro e; injection e with e; omega
def lenV : Value → Nat
  | .slice _ n _ => n
  | _ => 0
/-- How far the inner loop has come. -/
structure In2 (base : Nat) (k m : Nat) (C : Option Addr) (cC : Nat) (wo : World) (t : Nat) (vc : Value) (wi : World) : Prop where
  own : wi.ownsRow base 5 1 vc (m + t) ((mrks k (m + t)).map bv)
  gr : wo.grownBy wi (Value.slice C m cC).ownBlock
  at_ : vc.ownBlock = (Value.slice C m cC).ownBlock ∨ ((∃ b, vc.ownBlock = some b ∧ wo.heap.size ≤ b) ∧ RB wi C (mrks k m))
theorem In2.rb {base k m t cC : Nat} {C : Option Addr} {wo wi : World} {vc : Value} (h : In2 base k m C cC wo t vc wi) (hm : wo.ownsRow base 5 1 (.slice C m cC) m ((mrks k m).map bv)) : RB wi C (mrks k m) := by
  rcases h.at_ with h1 | ⟨_, h1⟩
  · cases C with
    | none =>
      have : m = 0 := by rcases hm.2 with ⟨_, h0⟩ | ⟨g, _, _, e, _⟩; exact h0; cases e
      subst this; exact RC.nil _ _
    | some ad =>
      rcases h.own.2 with ⟨e, _⟩ | ⟨g, cap, cur, e, _⟩
      · subst e; cases h1
      · subst e
        rcases hm.2 with ⟨e, _⟩ | ⟨g', cap', cur', e, _⟩
        · cases e
        · injection e with e1 e2 e3
          injection e1 with e1
          subst e1
          injection h1 with h1
          simp only at h1
          subst h1
          have h2 := RC.take_ (RC.of_own h.own) m
          rw [← List.map_take] at h2
          have e3 : (mrks k (m + t)).take m = mrks k m := by
            apply List.ext_getElem?
            intro i
            rw [List.getElem?_take]
            by_cases hi : i < m
            · rw [if_pos hi, mrks_at _ _ _ hi, mrks_at _ _ _ (by omega)]
            · rw [if_neg hi, List.getElem?_eq_none (by rw [mrks_len]; omega)]
          rw [e3] at h2
          exact h2
  · exact h1
theorem grown_al (w : World) (o : Obj) (row : Option Nat) : w.grownBy (w.alloc o) row := ⟨rfl, rfl, rfl, by simp, fun k hk _ => Below.heap_alloc w o k hk⟩
theorem In2.step {base k m t cC : Nat} {C : Option Addr} {wo wi w2 : World} {vc v2 : Value} {o : Obj} (h : In2 base k m C cC wo t vc wi)
    (hm : wo.ownsRow base 5 1 (.slice C m cC) m ((mrks k m).map bv))
    (h1 : w2.ownsRow base 5 1 v2 (m + t + 1) ((mrks k (m + t)).map bv ++ [bv (mrk k (m + t))])) (h2 : App2 (wi.alloc o) vc w2 v2) : In2 base k m C cC wo (t + 1) v2 w2 := by
  have hrb := h.rb hm
  have hs := h.gr.size
  have hsa : (wi.alloc o).heap.size = wi.heap.size + 1 := by simp
  have hrb' : RB (wi.alloc o) C (mrks k m) := hrb.grown (grown_al wi o none) (by simp)
  have hclt : ∀ b, (Value.slice C m cC).ownBlock = some b → b < wo.heap.size := fun b e => (own_lt hm e).2
  refine ⟨?_, ?_, ?_⟩
  · rw [show m + (t + 1) = m + t + 1 from by omega, mrks_succ, List.map_append]; exact h1
  · refine ⟨?_, ?_, ?_, ?_, fun i hi hne => ?_⟩
    · rcases h2 with ⟨_, hg⟩ | ⟨hg, _⟩ <;> exact hg.os.trans h.gr.os
    · rcases h2 with ⟨_, hg⟩ | ⟨hg, _⟩ <;> exact hg.tape.trans h.gr.tape
    · rcases h2 with ⟨_, hg⟩ | ⟨hg, _⟩ <;> exact hg.output.trans h.gr.output
    · rcases h2 with ⟨_, hg⟩ | ⟨hg, _⟩ <;> (have := hg.size; omega)
    · rw [← h.gr.block i hi hne, ← Below.heap_alloc wi o i (by omega)]
      rcases h2 with ⟨_, hg⟩ | ⟨hg, _⟩
      · refine hg.block i (by omega) (fun e => ?_)
        rcases h.at_ with h3 | ⟨⟨b, h3, h4⟩, _⟩
        · exact hne (by rw [e, h3])
        · rw [h3] at e; injection e with e; omega
      · exact hg.block i (by omega) (by simp)
  · rcases h2 with ⟨he, hg⟩ | ⟨hg, b, he, hbl⟩
    · rcases h.at_ with h3 | ⟨⟨b, h3, h4⟩, _⟩
      · exact .inl (he.trans h3)
      · refine .inr ⟨⟨b, he.trans h3, h4⟩, hrb'.grown hg (fun ad e => ?_)⟩
        subst e
        rw [h3]
        intro e; injection e with e
        have := hclt _ rfl
        omega
    · exact .inr ⟨⟨b, he, by omega⟩, hrb'.grown hg (by simp)⟩
theorem S2.step {base H2 N k cC : Nat} {A C : Option Addr} {v : Nat → Value} {n : Nat → Nat} {w0 wo wi w4 : World} {vg vl vg' : Value} {o : Obj} {gs : List Value} (h : S2 base H2 N A v n w0 k vg wo) (hap : Apt A N v) (hk : k < N)
    (hv : v k = .slice C (n k) cC) (hcC : n k ≤ cC) (hin : In2 base k (n k) C cC wo 12 vl wi)
    (hgl : gs.length = k) (hgs : ∀ j g, gs[j]? = some g → Fin2 wo H2 v n vg j g)
    (h1 : w4.ownsRow base 42 1 vg' (k + 1) (gs ++ [vl])) (h2 : App2 (wi.alloc o) vg w4 vg') : S2 base H2 N A v n w0 (k + 1) vg' w4 := by
  have hvk := h.own k (Nat.le_refl _) hk
  have hrb := hin.rb (by rw [← hv]; exact hvk)
  have hsa : (wi.alloc o).heap.size = wi.heap.size + 1 := by simp
  have hs1 := hin.gr.size
  have hs2 : (wi.alloc o).heap.size ≤ w4.heap.size := by rcases h2 with ⟨_, hg⟩ | ⟨hg, _⟩ <;> exact hg.size
  have hg1 : wo.grownBy wi (v k).ownBlock := by rw [hv]; exact hin.gr
  have hfar : ∀ {A' : Option Addr} {cs : List Value}, RC (wi.alloc o) A' cs → (∀ ad, A' = some ad → some ad.block ≠ vg.ownBlock) → RC w4 A' cs := fun {A'} {cs} hr hne => by
    rcases h2 with ⟨_, hg⟩ | ⟨hg, _⟩
    · exact hr.grown hg hne
    · exact hr.grown hg (by simp)
  have hvg' : vg'.ownBlock = vg.ownBlock ∨ ∃ b, vg'.ownBlock = some b ∧ (wi.alloc o).heap.size ≤ b := by
    rcases h2 with ⟨he, _⟩ | ⟨_, he⟩
    · exact .inl he
    · exact .inr he
  have hvgo : ∀ b, (∃ j, j < N ∧ (v j).ownBlock = some b) → some b ≠ vg.ownBlock := fun b ⟨j, hj, e⟩ e2 => by
    have := h.vH j hj b e; have := h.vgH b e2.symm; omega
  have hkb : ∀ b, (v k).ownBlock = some b → b < H2 := h.vH k hk
  refine ⟨fun j hj1 hj2 => ?_, ?_, fun b e => ?_, h.vH, h.aH, ?_, ?_, by have := h.hsz; omega, h.hb⟩
  · have h3 := (h.own j (by omega) hj2).kept hg1 (hap.dis j k hj2 hk (by omega))
    have h4 := h3.alloc o
    rcases h2 with ⟨_, hg⟩ | ⟨hg, _⟩
    · refine h4.kept hg ?_
      cases e : (v j).ownBlock with
      | none => exact .inl rfl
      | some b => exact .inr (hvgo b ⟨j, hj2, e⟩)
    · exact h4.kept hg (by cases (v j).ownBlock <;> simp)
  · refine ⟨gs ++ [vl], by simp [hgl], h1, fun j g hjg => ?_⟩
    by_cases hj : j < k
    · rw [List.getElem?_append_left (by omega)] at hjg
      have hf := hgs j g hjg
      have hjN : j < N := by omega
      have hne1 : g.ownBlock ≠ (v k).ownBlock := by
        obtain ⟨B, cB, C', cC', rfl, e1, e2, e3, e4, e5, e6, b, e7, e8, e9⟩ := hf
        intro e
        rcases e6 with e6 | ⟨b', e6, hb'⟩
        · rcases hap.dis j k hjN hk (by omega) with h5 | h5
          · rw [e6, h5] at e7; cases e7
          · exact h5 (by rw [← e6]; exact e)
        · have := hkb b' (by rw [← e]; exact e6); omega
      have hne2 : ∀ b, (v j).ownBlock = some b → some b ≠ (v k).ownBlock := fun b e e2 => by
        rcases hap.dis j k hjN hk (by omega) with h5 | h5
        · rw [h5] at e; cases e
        · exact h5 (by rw [e]; exact e2)
      have hf1 := (hf.grown hg1 hne1 hne2).grown (grown_al wi o none) (by obtain ⟨_, _, _, _, _, _, _, _, _, _, _, b, e7, _⟩ := hf; rw [e7]; simp) (by simp)
      have hne3 : g.ownBlock ≠ vg.ownBlock := by obtain ⟨_, _, _, _, _, _, _, _, _, _, _, b, e7, _, e9⟩ := hf; rw [e7]; exact e9
      have hf2 := hf1.vg hvg'
      rcases h2 with ⟨_, hg⟩ | ⟨hg, _⟩
      · exact hf2.grown hg hne3 (fun b e => hvgo b ⟨j, hjN, e⟩)
      · exact hf2.grown hg (by obtain ⟨_, _, _, _, _, _, _, _, _, _, _, b, e7, _⟩ := hf; rw [e7]; simp) (by simp)
    · have hjk : j = k := by
        have := (List.getElem?_eq_some_iff.1 hjg).1
        simp only [List.length_append, List.length_singleton] at this; omega
      subst hjk
      rw [List.getElem?_append_right (by omega), hgl, Nat.sub_self] at hjg
      simp at hjg
      subst hjg
      obtain ⟨B, cB, rfl, hcB, hRB, -⟩ := own_form hin.own
      obtain ⟨gB, hgB, hlt, hlt2⟩ : ∃ b, (Value.slice B (n j + 12) cB).ownBlock = some b ∧ b < wi.heap.size ∧ base ≤ b := by
        rcases hin.own.2 with ⟨_, h0⟩ | ⟨g, cap, cur, e, hbg, hg, _⟩
        · omega
        · exact ⟨g, by rw [e]; rfl, (Array.getElem?_eq_some_iff.1 hg).1, hbg⟩
      have hBv : (Value.slice B (n j + 12) cB).ownBlock = (v j).ownBlock ∨ ∃ b, (Value.slice B (n j + 12) cB).ownBlock = some b ∧ H2 ≤ b := by
        rcases hin.at_ with h3 | ⟨⟨b, h3, h4⟩, _⟩
        · exact .inl (by rw [hv]; exact h3)
        · exact .inr ⟨b, h3, by have := h.hsz; omega⟩
      have hBne : some gB ≠ vg.ownBlock := by
        rcases hin.at_ with h3 | ⟨⟨b, h3, h4⟩, _⟩
        · exact hvgo gB ⟨j, hk, by rw [hv, ← h3]; exact hgB⟩
        · rw [hgB] at h3; injection h3 with h3
          intro e
          obtain ⟨gs0, _, ho, _⟩ := h.gs
          have := (own_lt ho e.symm).2
          omega
      refine ⟨B, cB, C, cC, rfl, hcB, hv, hcC, ?_, ?_, hBv, gB, hgB, by omega, ?_⟩
      · refine hfar (RC.grown hRB (grown_al wi o none) (by simp)) (fun ad e => ?_)
        subst e
        injection hgB with hgB
        rw [hgB]; exact hBne
      · refine hfar (RC.grown hrb (grown_al wi o none) (by simp)) (fun ad e => ?_)
        subst e
        exact hvgo _ ⟨j, hk, by rw [hv]; rfl⟩
      · rcases hvg' with e | ⟨b, e, hb'⟩
        · rw [e]; exact hBne
        · rw [e]; intro e2; injection e2 with e2; omega
  · rcases hvg' with e2 | ⟨b', e2, hb'⟩
    · exact h.vgH b (by rw [← e2]; exact e)
    · rw [e2] at e; injection e with e; have := h.hsz; omega
  · have h3 := (h.rv.grown hg1 (fun ad e => hap.arr ad e k hk)).grown (grown_al wi o none) (by simp)
    rcases h2 with ⟨_, hg⟩ | ⟨hg, _⟩
    · refine h3.grown hg (fun ad e e2 => ?_)
      have := h.aH ad e (by omega); have := h.vgH _ e2.symm; omega
    · exact h3.grown hg (by simp)
  · have hb1 : base ≤ wo.heap.size := by have := h.hb; have := h.hsz; omega
    have h3 := (h.bel.grown hg1 hb1 (fun g hg => (own_lt hvk hg).1)).alloc (by omega) o
    rcases h2 with ⟨_, hg⟩ | ⟨hg, _⟩
    · exact h3.grown hg (by omega) (fun g hg => by have := h.vgH g hg; have := h.hb; omega)
    · exact h3.grown hg (by omega) (fun g hg => by cases hg)

set_option maxRecDepth 100000 in
set_option maxHeartbeats 3200000 in
theorem apart_any (base N : Nat) (v : Nat → Value) (n : Nat → Nat) (A : Option Addr) (c : Nat) (w : World) (hN : N ≤ 100000) (hn : ∀ k, k < N → n k ≤ 4000000) (hbs : base ≤ w.heap.size)
    (hA : RV w A N v) (hap : Apt A N v) (hown : ∀ k, k < N → ∃ xs, w.ownsRow base 5 1 (v k) (n k) xs) :
    Calls Try.prog 25 #[.slice A N c] w fun e w' => e = .returned (.bool true) ∧ Below base w w' := by
  have HNN := Lib.hid hn
  have HAP := Lib.hid hap
  have HS0 : Hid (S1 base N v n 0 w) := fun j hj => by obtain ⟨xs, h⟩ := hown j hj; exact ⟨xs, h, fun h => absurd h (Nat.not_lt_zero _)⟩
  have HA := Lib.hid hA
  clear hn hap hown hA
  obtain ⟨i0, hi, hz0, hz1, hz2⟩ := info_parts info_u8
  go_enter Try.func25, Try.ntmps25
  go_upto_block 0 with fail
  go_cut [] (fun wx => Hid (S1 base N v n N wx) ∧ Hid (RV wx A N v) ∧ Below base w wx)
  case first =>
    go_wp2_with fail
    go_loopw [15] (fun i wr => ∃ k : Nat, k ≤ N ∧ i = .int .i64 (k : Int) ∧ Hid (S1 base N v n k wr) ∧ Hid (RV wr A N v) ∧ Below base w wr) (fun i _ => N - (intOf i).toNat)
    case atStart => exact ⟨0, Nat.zero_le _, rfl, HS0, HA, Below.refl _ _⟩
    case round =>
      obtain ⟨k, hk, rfl, HS, HR, hb⟩ := hrel
      by_cases hlt : k < N
      · obtain ⟨ad, rfl, hc⟩ := HR.out k hlt
        obtain ⟨xs, hown, -⟩ := HS.out k hlt
        obtain ⟨B, cB, hv, hcB, -, -⟩ := own_form hown
        rw [hv] at hc
        have hnk := HNN.out k hlt
        have HS2 : Hid (∀ w', wr.grownBy w' (Value.slice B (n k) cB).ownBlock → w'.ownsRow base 5 1 (.slice B (n k) cB) (n k) ((mrks k (n k)).map bv) → S1 base N v n (k + 1) w' ∧ RV w' (some ad) N v) := fun w' hg ho => by
          rw [← hv] at hg ho
          exact ⟨HS.out.step HAP.out hlt hg ho, HR.out.grown hg (fun ad' e => HAP.out.arr ad' e k hlt)⟩
        rw [hv] at hown
        clear hv
        generalize n k = m at *
        obtain ⟨wo, rfl⟩ : ∃ wo : World, wo = wr := ⟨_, rfl⟩
        have hbo : ∀ g, (Value.slice B m cB).ownBlock = some g → base ≤ g := fun g hg => (own_lt hown hg).1
        have HBO := Lib.hid hbo
        clear hbo
        go_wp2_with fail
        go_loopw [22] (fun i wi => ∃ (j : Nat) (ys : List Value), j ≤ m ∧ i = .int .i64 (j : Int) ∧ Hid (∀ i, i < j → ys[i]? = some (bv (mrk k i))) ∧ wi.ownsRow base 5 1 (.slice B m cB) m ys ∧ wo.grownBy wi (Value.slice B m cB).ownBlock) (fun i _ => m - (intOf i).toNat)
        case atStart => exact ⟨0, xs, Nat.zero_le _, rfl, fun i hi => absurd hi (Nat.not_lt_zero _), hown, World.grownBy.refl _ _⟩
        case round =>
          obtain ⟨j, ys, hj, rfl, HY, ho, hg⟩ := hrel
          by_cases hjl : j < m
          · obtain ⟨g, c9, he, hge, hgl⟩ := own_headE ho (by omega)
            injection he with he1 he2 he3
            subst he1 he3
            have cc := own_cellE ho j hjl
            have hyl : ys.length = m := by have := ho.1; omega
            rw [List.getElem?_eq_getElem (by omega)] at cc
            have cf := ho.frozenAt j
            have HST := Lib.hid (ho.stored j (bv (mrk k j)))
            have HY2 : Hid (∀ i, i < j + 1 → (ys.set j (bv (mrk k j)))[i]? = some (bv (mrk k i))) := fun i hi => by
              by_cases e : i = j
              · subst e; rw [List.getElem?_set_self (by omega)]
              · rw [List.getElem?_set_ne (by omega)]; exact HY.out i (by omega)
            have hmk := mrk_nat k j
            generalize ys[j]'(by omega) = y at *
            clear hown ho
            go_wp2_with fail
            go_roundw
            case rel =>
              have h1 := HST.out.1
              have h2 := hg.trans HST.out.2
              simp only [bv, hmk] at h1 h2
              exact ⟨j + 1, _, by omega, by go_num, HY2, h1, h2⟩
            case measure => simp [intOf]; omega
          · obtain rfl : j = m := by omega
            have hyl : ys.length = j := by have := ho.1; omega
            have hye := marks_eq hyl HY.out
            subst hye
            have hbi := hb.grown hg (by have := hb.size; omega) HBO.out
            have hz := HS2.out _ hg ho
            have HZ := Lib.hid hz
            clear hz hown ho hg HS2 hyl
            go_wp2_with fail
            go_roundw
            case rel => exact ⟨k + 1, by omega, by go_num, HZ.out.1, HZ.out.2, hbi⟩
            case measure => simp [intOf]; omega
      · go_wp2_with fail
        obtain rfl : k = N := by omega
        go_meet
        exact ⟨HS, HR, hb⟩
  case rest =>
    obtain ⟨HS, HR, hb⟩ := hcut
    clear HS0 HA
    have hbw : base ≤ wc.heap.size := by have := hb.size; omega
    obtain ⟨i1, hi1, hz10, hz11, hz12⟩ := info_parts info_bs
    go_upto_block 4 with fail
    have HS2 : Hid (S2 base wc.heap.size N A v n w 0 (.slice (some ⟨wc.heap.size, 0, none⟩) 0 0) (wc.alloc (.cells #[] 42))) :=
      ⟨fun j _ hj => (HS.out.whole j hj).alloc _, ⟨[], rfl, own_empty wc base 42 _ rfl hbw, fun j g h => by simp at h⟩, fun b e => by injection e with e; simp only at e; omega,
        fun j hj b e => (own_lt (HS.out.whole j hj) e).2, fun ad e h0 => by obtain ⟨ad', e', hc⟩ := HR.out 0 h0; rw [e] at e'; injection e' with e'; subst e'; have := World.block_lt_of_cell? _ _ hc; rwa [add_block] at this,
        HR.out.grown (grown_al _ _ none) (by simp), hb.alloc hbw _, by simp, hbw⟩
    generalize wc.alloc (.cells #[] 42) = wd at *
    generalize wc.heap.size = H2 at *
    clear HS HR hb
    go_cut [6] (fun vg wx => Hid (S2 base H2 N A v n w N vg wx))
    case first =>
      go_wp2_with fail
      go_loopw [6, 40] (fun vg i wr => ∃ k : Nat, k ≤ N ∧ i = .int .i64 (k : Int) ∧ Hid (S2 base H2 N A v n w k vg wr)) (fun _ i _ => N - (intOf i).toNat)
      case atStart => exact ⟨0, Nat.zero_le _, rfl, HS2⟩
      case round =>
        obtain ⟨k, hk, rfl, HS⟩ := hrel
        clear HS2
        by_cases hlt : k < N
        · obtain ⟨ad, rfl, hc⟩ := HS.out.rv k hlt
          have hown := HS.out.own k (Nat.le_refl _) hlt
          obtain ⟨C, cC, hv, hcC, -, -⟩ := own_form hown
          rw [hv] at hc
          have hnk := HNN.out k hlt
          have hs1 : base ≤ wr.heap.size := by have := HS.out.hb; have := HS.out.hsz; omega
          obtain ⟨gs, hgl, hog, hgs⟩ := HS.out.gs
          have HSS : Hid (∀ wi w4 vl vg' o, In2 base k (n k) C cC wr 12 vl wi → w4.ownsRow base 42 1 vg' (k + 1) (gs ++ [vl]) → App2 (wi.alloc o) u6 w4 vg' → S2 base H2 N (some ad) v n w (k + 1) vg' w4) :=
            fun wi w4 vl vg' o h1 h2 h3 => HS.out.step HAP.out hlt hv hcC h1 hgl hgs h2 h3
          have HGG : Hid (∀ wi vl, In2 base k (n k) C cC wr 12 vl wi → wi.ownsRow base 42 1 u6 k gs) := fun wi vl h1 => by
            have hg1 := h1.gr
            rw [← hv] at hg1
            refine hog.kept hg1 ?_
            cases e : u6.ownBlock with
            | none => exact .inl rfl
            | some b => exact .inr (fun e2 => by have := HS.out.vgH b e; have := HS.out.vH k hlt b e2.symm; omega)
          rw [hv] at hown
          clear hv
          generalize n k = m at *
          have HIN : Hid (In2 base k m C cC wr 0 (.slice C m cC) wr) := ⟨hown, World.grownBy.refl _ _, .inl rfl⟩
          have HOW := Lib.hid hown
          clear hown hog hgs
          obtain ⟨wo, rfl⟩ : ∃ wo : World, wo = wr := ⟨_, rfl⟩
          go_wp2_with fail
          go_loopw [8] (fun vc wi => ∃ t : Nat, t ≤ 12 ∧ lenV vc = m + t ∧ Hid (In2 base k m C cC wo t vc wi)) (fun vc _ => m + 12 - lenV vc)
          case atStart => exact ⟨0, by omega, rfl, HIN⟩
          case round =>
            obtain ⟨t, ht, hle, HI⟩ := hrel
            have hown := HI.out.own
            have hwi : base ≤ wr.heap.size := by have := HI.out.gr.size; omega
            obtain ⟨B, cB, rfl, hcB, -, -⟩ := own_form hown
            clear hle HIN
            by_cases htl : t < 12
            · obtain ⟨b, he, HB⟩ : ∃ b : UInt8, (31 * (k : Int) + 7 * ((m : Int) + (t : Int)) + 1) % 256 = (b.toNat : Int) ∧ Hid (b = mrk k (m + t)) := ⟨_, by rw [mrk_nat]; omega, rfl⟩
              have hlt2 : (m : Int) + (t : Int) < (m : Int) + 12 := by omega
              go_wp2_with (at_builtin; refine wl_app2 _ rfl (.tmp 52) (.tmp 61) 42 rfl base 5 i0 (.int .u8 0) 1 1 Try.underlying42 hi hz0 hz1 hz2 rfl (by omega) (.slice B (m + t) cB) (m + t) _ rfl (hown.alloc _) ⟨wr.heap.size, 0, none⟩ 1 1 (by omega) [.int .u8 (b.toNat : Int)] rfl rfl (rc_new wr _ _) (by simp [Value.oneCell']) (by unfold maxLen; omega) (by omega) (by simp; omega) ?_)
              intro v2 w2 hown2 hap2
              have HI2 := Lib.hid (HI.out.step HOW.out (by rw [← HB.out]; exact hown2) hap2)
              obtain ⟨B2, c2, rfl, -, -, -⟩ := own_form hown2
              clear hown2 hap2 hown HI he
              go_wp2_with fail
              go_roundw
              case rel => exact ⟨t + 1, by omega, rfl, HI2⟩
              case measure => simp only [lenV]; omega
            · obtain rfl : t = 12 := by omega
              have hog := HGG.out _ _ HI.out
              clear hown HGG
              have hlt2 : ¬ (m : Int) + 12 < (m : Int) + 12 := by omega
              go_wp2_with (at_builtin; refine wl_app2 _ rfl (.tmp 63) (.tmp 65) 33 rfl base 42 i1 (.slice none 0 0) 1 24 Try.underlying33 hi1 hz10 hz11 hz12 rfl (by omega) u6 k gs rfl (hog.alloc _) ⟨wr.heap.size, 0, none⟩ 1 1 (by omega) [.slice B (m + 12) cB] rfl rfl (rc_new wr _ _) (by simp [Value.oneCell']) (by unfold maxLen; omega) (by omega) (by simp; omega) ?_)
              intro v2 w2 hown2 hap2
              have HZ := Lib.hid (HSS.out _ _ _ _ _ HI.out hown2 hap2)
              clear hown2 hap2 hog HI HSS
              go_wp2_with fail
              go_roundw
              case rel => exact ⟨k + 1, by omega, by go_num, HZ⟩
              case measure => simp [intOf]; omega
        · go_wp2_with fail
          obtain rfl : k = N := by omega
          go_meet
          exact HS
    case rest =>
      clear HS2
      obtain ⟨gs, hgl, hog, hgs⟩ := hcut.out.gs
      obtain ⟨G, cG, rfl, -, hRG, -⟩ := own_form hog
      have HF : Hid (∀ k, k < N → ∃ aG aA B cB C cC, G = some aG ∧ A = some aA ∧ wc.cell? (aG.add k) = some (.slice B (n k + 12) cB) ∧ wc.cell? (aA.add k) = some (.slice C (n k) cC) ∧ RB wc B (mrks k (n k + 12)) ∧ RB wc C (mrks k (n k))) := fun k hk => by
        have hgk : gs[k]? = some (gs[k]'(by omega)) := List.getElem?_eq_getElem (by omega)
        obtain ⟨B, cB, C, cC, e1, e2, e3, e4, e5, e6, -⟩ := hgs k _ hgk
        obtain ⟨aA, e7, e8⟩ := hcut.out.rv k hk
        obtain ⟨aG, e9, e10⟩ := hRG k _ hgk
        rw [e1] at e10
        rw [e3] at e8
        exact ⟨aG, aA, B, cB, C, cC, e9, e7, e10, e8, e5, e6⟩
      have HB := Lib.hid hcut.out.bel
      clear hcut hgl hog hgs hRG
      go_wp2_with fail
      go_loopw [70] (fun i wr => ∃ k : Nat, k ≤ N ∧ i = .int .i64 (k : Int) ∧ Below wc.heap.size wc wr) (fun i _ => N - (intOf i).toNat)
      case atStart => exact ⟨0, Nat.zero_le _, rfl, Below.refl _ _⟩
      case round =>
        obtain ⟨k, hk, rfl, hb⟩ := hrel
        by_cases hlt : k < N
        · obtain ⟨aG, aA, B, cB, C, cC, rfl, rfl, hcG, hcA, hRB, hRC⟩ := HF.out k hlt
          have hnk := HNN.out k hlt
          replace hcG := cell_keep hb hcG
          replace hcA := cell_keep hb hcA
          replace hRB := hRB.below hb
          replace hRC := hRC.below hb
          have HRB := Lib.hid hRB
          have HRC := Lib.hid hRC
          clear hRB hRC
          generalize n k = m at *
          obtain ⟨wo, rfl⟩ : ∃ wo : World, wo = wr := ⟨_, rfl⟩
          have HCA := Lib.hid hcA
          clear hcA
          go_wp2_with fail
          clear hcG
          go_loopw [77] (fun i wr => ∃ j : Nat, j ≤ m + 12 ∧ i = .int .i64 (j : Int) ∧ Below wo.heap.size wo wr) (fun i _ => m + 12 - (intOf i).toNat)
          case atStart => exact ⟨0, Nat.zero_le _, rfl, Below.refl _ _⟩
          case round =>
            obtain ⟨j, hj, rfl, hb2⟩ := hrel
            by_cases hjl : j < m + 12
            · have hcA := cell_keep hb2 HCA.out
              obtain ⟨aB, rfl, hcB⟩ := (HRB.out.below hb2).at_ j (by rw [mrks_len]; exact hjl)
              have e1 : (mrks k (m + 12))[j]'(by rw [mrks_len]; exact hjl) = mrk k j := by
                have h1 := mrks_at k (m + 12) j hjl
                rw [List.getElem?_eq_getElem (by rw [mrks_len]; exact hjl)] at h1
                injection h1
              rw [e1] at hcB
              clear e1
              have hmk : (31 * (k : Int) + 7 * (j : Int) + 1) % 256 = ((mrk k j).toNat : Int) := (mrk_nat k j).symm
              by_cases hjm : j < m
              · obtain ⟨aC, rfl, hcC⟩ := (HRC.out.below hb2).at_ j (by rw [mrks_len]; exact hjm)
                have e1 : (mrks k m)[j]'(by rw [mrks_len]; exact hjm) = mrk k j := by
                  have h1 := mrks_at k m j hjm
                  rw [List.getElem?_eq_getElem (by rw [mrks_len]; exact hjm)] at h1
                  injection h1
                rw [e1] at hcC
                clear e1
                generalize (mrk k j) = b at *
                have h1 : (j : Int) < (m : Int) := by omega
                have h2 : (j : Int) < (m : Int) + 12 := by omega
                have h3 : (k : Int) < (N : Int) := by omega
                have h0 : (0 : Int) ≤ (j : Int) := by omega
                have h00 : (0 : Int) ≤ (k : Int) := by omega
                go_wp2_with fail
                go_quiet (fail)
                go_wp2_with fail
                go_roundw
                case rel => exact ⟨j + 1, by omega, by go_num, ⟨hb2.os, hb2.tape, hb2.output, hb2.size, hb2.block⟩⟩
                case measure => simp [intOf]; omega
              · clear HRC
                generalize (mrk k j) = b at *
                have h1 : decide ((j : Int) < (m : Int)) = false := by simp; omega
                have h2 : (j : Int) < (m : Int) + 12 := by omega
                have h3 : (k : Int) < (N : Int) := by omega
                have h0 : (0 : Int) ≤ (j : Int) := by omega
                have h00 : (0 : Int) ≤ (k : Int) := by omega
                go_wp2_with fail
                go_quiet (fail)
                go_wp2_with fail
                go_roundw
                case rel => exact ⟨j + 1, by omega, by go_num, ⟨hb2.os, hb2.tape, hb2.output, hb2.size, hb2.block⟩⟩
                case measure => simp [intOf]; omega
            · go_wp2_with fail
              go_roundw
              case rel => exact ⟨k + 1, by omega, by go_num, hb.trans (hb2.mono hb.size)⟩
              case measure => simp [intOf]; omega
        · go_wp2_with fail
          go_ret
          have hb' := HB.out
          exact ⟨rfl, hb'.trans (hb.mono (by have := hb'.size; omega))⟩

/-- Rows made one behind the other lie apart. -/
theorem own_apt {w w' : World} {base base' : Nat} {e e' : TypeId} {size size' n n' : Nat} {v v' : Value} {xs xs' : List Value} (h : w.ownsRow base e size v n xs) (h' : w'.ownsRow base' e' size' v' n' xs') (hb : w.heap.size ≤ base') :
    ∀ b, v.ownBlock = some b → v'.ownBlock ≠ some b := fun b e e2 => by have := (own_lt h e).2; have := (own_lt h' e2).1; omega
theorem dis_of {v v' : Value} (h : ∀ b, v.ownBlock = some b → v'.ownBlock ≠ some b) : v.ownBlock = none ∨ v.ownBlock ≠ v'.ownBlock := by
  cases e : v.ownBlock with
  | none => exact .inl rfl
  | some b => exact .inr (fun e2 => h b e e2.symm)
theorem dis_of' {v v' : Value} (h : ∀ b, v.ownBlock = some b → v'.ownBlock ≠ some b) : v'.ownBlock = none ∨ v'.ownBlock ≠ v.ownBlock := by
  cases e : v'.ownBlock with
  | none => exact .inl rfl
  | some b => exact .inr (fun e2 => h b e2.symm e)
theorem apart2 (base : Nat) (v0 v1 : Value) (n0 n1 : Nat) (x0 x1 : List Value) (t : TypeId) (w : World) (b0 : n0 ≤ 4000000) (b1 : n1 ≤ 4000000) (hbs : base ≤ w.heap.size)
    (h0 : w.ownsRow base 5 1 v0 n0 x0) (h1 : w.ownsRow base 5 1 v1 n1 x1) (d01 : ∀ b, v0.ownBlock = some b → v1.ownBlock ≠ some b) {g : Nat} (hg : g = w.heap.size) :
    Calls Try.prog 25 #[.slice (some ⟨g, 0, none⟩) 2 2] (w.alloc (.cells #[v0, v1] t)) fun e w' => e = .returned (.bool true) ∧ Below base (w.alloc (.cells #[v0, v1] t)) w' := by
  subst hg
  have hB := Blk.new w t [v0, v1]
  refine apart_any base 2 (fun k => if k = 0 then v0 else v1) (fun k => if k = 0 then n0 else n1) _ 2 _ (by omega) (fun k hk => by show (if k = 0 then n0 else n1) ≤ 4000000; split <;> omega) (by simp; omega) (fun k hk => ⟨_, rfl, ?_⟩) ⟨fun i j hi hj hij => ?_, fun ad e k hk => ?_⟩ (fun k hk => ?_)
  · rw [add_lit0, hB.cell]
    match k, hk with
    | 0, _ => rfl
    | 1, _ => rfl
  · match i, j, hi, hj, hij with
    | 0, 1, _, _, _ => exact dis_of d01
    | 1, 0, _, _, _ => exact dis_of' d01
    | 0, 0, _, _, h => exact absurd rfl h
    | 1, 1, _, _, h => exact absurd rfl h
  · injection e with e
    subst e
    intro e
    match k, hk with
    | 0, _ => have := (own_lt h0 e.symm).2; simp at this
    | 1, _ => have := (own_lt h1 e.symm).2; simp at this
  · match k, hk with
    | 0, _ => exact ⟨_, h0.alloc _⟩
    | 1, _ => exact ⟨_, h1.alloc _⟩
theorem apart3 (base : Nat) (v0 v1 v2 : Value) (n0 n1 n2 : Nat) (x0 x1 x2 : List Value) (t : TypeId) (w : World) (b0 : n0 ≤ 4000000) (b1 : n1 ≤ 4000000) (b2 : n2 ≤ 4000000) (hbs : base ≤ w.heap.size)
    (h0 : w.ownsRow base 5 1 v0 n0 x0) (h1 : w.ownsRow base 5 1 v1 n1 x1) (h2 : w.ownsRow base 5 1 v2 n2 x2)
    (d01 : ∀ b, v0.ownBlock = some b → v1.ownBlock ≠ some b) (d02 : ∀ b, v0.ownBlock = some b → v2.ownBlock ≠ some b) (d12 : ∀ b, v1.ownBlock = some b → v2.ownBlock ≠ some b) {g : Nat} (hg : g = w.heap.size) :
    Calls Try.prog 25 #[.slice (some ⟨g, 0, none⟩) 3 3] (w.alloc (.cells #[v0, v1, v2] t)) fun e w' => e = .returned (.bool true) ∧ Below base (w.alloc (.cells #[v0, v1, v2] t)) w' := by
  subst hg
  have hB := Blk.new w t [v0, v1, v2]
  refine apart_any base 3 (fun k => if k = 0 then v0 else if k = 1 then v1 else v2) (fun k => if k = 0 then n0 else if k = 1 then n1 else n2) _ 3 _ (by omega) (fun k hk => by show (if k = 0 then n0 else if k = 1 then n1 else n2) ≤ 4000000; split <;> (first | omega | (split <;> omega))) (by simp; omega) (fun k hk => ⟨_, rfl, ?_⟩) ⟨fun i j hi hj hij => ?_, fun ad e k hk => ?_⟩ (fun k hk => ?_)
  · rw [add_lit0, hB.cell]
    match k, hk with
    | 0, _ => rfl
    | 1, _ => rfl
    | 2, _ => rfl
  · match i, j, hi, hj, hij with
    | 0, 1, _, _, _ => exact dis_of d01
    | 1, 0, _, _, _ => exact dis_of' d01
    | 0, 2, _, _, _ => exact dis_of d02
    | 2, 0, _, _, _ => exact dis_of' d02
    | 1, 2, _, _, _ => exact dis_of d12
    | 2, 1, _, _, _ => exact dis_of' d12
    | 0, 0, _, _, h => exact absurd rfl h
    | 1, 1, _, _, h => exact absurd rfl h
    | 2, 2, _, _, h => exact absurd rfl h
  · injection e with e
    subst e
    intro e
    match k, hk with
    | 0, _ => have := (own_lt h0 e.symm).2; simp at this
    | 1, _ => have := (own_lt h1 e.symm).2; simp at this
    | 2, _ => have := (own_lt h2 e.symm).2; simp at this
  · match k, hk with
    | 0, _ => exact ⟨_, h0.alloc _⟩
    | 1, _ => exact ⟨_, h1.alloc _⟩
    | 2, _ => exact ⟨_, h2.alloc _⟩
end Go.Proofs.Ytkgkbmiacomhdaa
