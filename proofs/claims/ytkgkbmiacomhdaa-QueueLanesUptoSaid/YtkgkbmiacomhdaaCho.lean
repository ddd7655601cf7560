/- Worlds of which channels' blocks alone differ; rows as values. -/
import Derived.Test.YtkgkbmiacomhdaaQu
namespace Go.Proofs.Ytkgkbmiacomhdaa
set_option linter.unusedVariables false
set_option linter.unusedSimpArgs false
open Go.RowKit Go.Conc

def NoChan (w : World) (k : Nat) : Prop := ∀ a b c d e f, w.heap[k]? ≠ some (.chan a b c d e f)
/-- Blocks that are no channels are as they were. -/
structure ChO (w w' : World) : Prop where
  size : w.heap.size ≤ w'.heap.size
  block : ∀ k, k < w.heap.size → NoChan w k → w'.heap[k]? = w.heap[k]?
theorem ChO.refl (w : World) : ChO w w := ⟨Nat.le_refl _, fun _ _ _ => rfl⟩
theorem NoChan.keep {w w' : World} {k : Nat} (h : NoChan w k) (hc : ChO w w') (hk : k < w.heap.size) : NoChan w' k := fun a b c d e f he => h a b c d e f (by rw [← hc.block k hk h]; exact he)
theorem ChO.trans {w w' w2 : World} (h : ChO w w') (h2 : ChO w' w2) : ChO w w2 :=
  ⟨Nat.le_trans h.size h2.size, fun k hk hn => by rw [h2.block k (Nat.lt_of_lt_of_le hk h.size) (hn.keep h hk), h.block k hk hn]⟩
theorem ChO.below {w w' : World} (h : Below w.heap.size w w') : ChO w w' := ⟨h.size, fun k hk _ => h.block k hk⟩
theorem ChO.chan {w w' : World} {c cap : Nat} {vs : List Value} (hc : Ch w c cap vs) (h : w.grownBy w' (some c)) : ChO w w' :=
  ⟨h.size, fun k hk hn => h.block k hk (fun e => by injection e with e; subst e; obtain ⟨s, r, hc⟩ := hc; exact hn _ _ _ _ _ _ hc)⟩
theorem ChO.fresh {w w' w2 : World} {row : Option Nat} (h : ChO w w') (hg : w'.grownBy w2 row) (hr : ∀ b, row = some b → w.heap.size ≤ b) : ChO w w2 :=
  ⟨Nat.le_trans h.size hg.size, fun k hk hn => by rw [hg.block k (Nat.lt_of_lt_of_le hk h.size) (fun e => by have := hr k e.symm; omega), h.block k hk hn]⟩
theorem noChan_cell {w : World} {p : Addr} {u : Value} (h : w.cell? p = some u) : NoChan w p.block := fun a b c d e f he => by simp [World.cell?, he] at h
theorem cell_cho {w w' : World} {p : Addr} {u : Value} (h : w.cell? p = some u) (hc : ChO w w') : w'.cell? p = some u := by
  have hb := hc.block p.block (World.block_lt_of_cell? w p h) (noChan_cell h)
  rw [← h]
  simp only [World.cell?, hb]
theorem RC.cho {w w' : World} {A : Option Addr} {cs : List Value} (h : RC w A cs) (hc : ChO w w') : RC w' A cs := fun j u hu => by
  obtain ⟨ad, e, hcell⟩ := h j u hu
  exact ⟨ad, e, cell_cho hcell hc⟩
theorem RP.cho {w w' : World} {A : Option Addr} {ps : List (List UInt8)} (h : RP w A ps) (hg : ChO w w') : RP w' A ps := by
  obtain ⟨cs, h1, hr, hp⟩ := h
  refine ⟨cs, h1, hr.cho hg, fun j hj => ?_⟩
  obtain ⟨B, c, h1, h2, h3⟩ := hp j hj
  exact ⟨B, c, h1, h2, RC.cho h3 hg⟩
theorem Blk.cho {w w' : World} {g : Nat} {t : TypeId} {cs : List Value} (h : Blk w g t cs) (hg : ChO w w') : Blk w' g t cs := by
  unfold Blk at h ⊢
  rw [hg.block g (Array.getElem?_eq_some_iff.1 h).1 (fun a b c d e f he => by rw [h] at he; cases he), h]
theorem own_cho {w w' : World} {base n : Nat} {e : TypeId} {v : Value} {xs : List Value} (h : w.ownsRow base e 1 v n xs) (hc : ChO w w') : w'.ownsRow base e 1 v n xs := by
  refine ⟨h.1, ?_⟩
  rcases h.2 with hn | ⟨g, cap, cur, hv, hb, hg, r⟩
  · exact .inl hn
  · refine .inr ⟨g, cap, cur, hv, hb, ?_, r⟩
    rw [hc.block g (Array.getElem?_eq_some_iff.1 hg).1 (fun a b c d e f he => by rw [hg] at he; cases he), hg]
theorem Own.cho {w w' : World} {base : Nat} {vs : List Value} {xs : List (List UInt8)} (h : Own w base vs xs) (hc : ChO w w') : Own w' base vs xs :=
  ⟨h.len, fun j v x hv hx => own_cho (h.own j v x hv hx) hc, h.dis⟩

/-- Rows as values. -/
structure RVs (w : World) (cs : List Value) (ps : List (List UInt8)) : Prop where
  len : cs.length = ps.length
  row : ∀ (j : Nat) v x, cs[j]? = some v → ps[j]? = some x → ∃ B c, v = .slice B x.length c ∧ x.length ≤ c ∧ RB w B x
theorem RVs.nil (w : World) : RVs w [] [] := ⟨rfl, fun j v x h => by simp at h⟩
theorem RP.vals {w : World} {A : Option Addr} {ps : List (List UInt8)} (h : RP w A ps) : ∃ cs, RC w A cs ∧ RVs w cs ps := by
  obtain ⟨cs, h1, h2, h3⟩ := h
  refine ⟨cs, h2, h1, fun j v x hv hx => ?_⟩
  have hj : j < ps.length := (List.getElem?_eq_some_iff.1 hx).1
  obtain ⟨B, c, e1, e2, e3⟩ := h3 j hj
  rw [List.getElem?_eq_getElem hj] at hx
  injection hx with hx
  subst hx
  rw [e1] at hv
  injection hv with hv
  subst hv
  exact ⟨B, c, rfl, e2, e3⟩
theorem RVs.rp {w : World} {A : Option Addr} {cs : List Value} {ps : List (List UInt8)} (h : RVs w cs ps) (hr : RC w A cs) : RP w A ps :=
  ⟨cs, h.len, hr, fun j hj => by
    have hj2 : j < cs.length := by rw [h.len]; exact hj
    obtain ⟨B, c, e1, e2, e3⟩ := h.row j _ _ (List.getElem?_eq_getElem hj2) (List.getElem?_eq_getElem hj)
    exact ⟨B, c, by rw [List.getElem?_eq_getElem hj2, e1], e2, e3⟩⟩
theorem RVs.append {w : World} {cs ds : List Value} {ps qs : List (List UInt8)} (h : RVs w cs ps) (h2 : RVs w ds qs) : RVs w (cs ++ ds) (ps ++ qs) := by
  have hl := h.len
  refine ⟨by rw [List.length_append, List.length_append, h.len, h2.len], fun j v x hv hx => ?_⟩
  by_cases hj : j < cs.length
  · rw [List.getElem?_append_left hj] at hv
    rw [List.getElem?_append_left (by omega)] at hx
    exact h.row j v x hv hx
  · rw [List.getElem?_append_right (by omega)] at hv
    rw [List.getElem?_append_right (by omega), ← hl] at hx
    exact h2.row _ v x hv hx
theorem RVs.sl {w : World} {cs : List Value} {ps : List (List UInt8)} (h : RVs w cs ps) : ∀ v ∈ cs, IsSl v := fun v hv => by
  obtain ⟨j, hj⟩ := List.getElem?_of_mem hv
  have hjl : j < ps.length := by rw [← h.len]; exact (List.getElem?_eq_some_iff.1 hj).1
  obtain ⟨B, c, e, _⟩ := h.row j v _ hj (List.getElem?_eq_getElem hjl)
  exact ⟨B, _, c, e⟩
theorem sl_one {cs : List Value} (h : ∀ v ∈ cs, IsSl v) : ∀ u ∈ cs, u.oneCell' = true := fun u hu => by
  obtain ⟨A, n, c, rfl⟩ := h u hu
  rfl
theorem RVs.cho {w w' : World} {cs : List Value} {ps : List (List UInt8)} (h : RVs w cs ps) (hc : ChO w w') : RVs w' cs ps :=
  ⟨h.len, fun j v x hv hx => by obtain ⟨B, c, e1, e2, e3⟩ := h.row j v x hv hx; exact ⟨B, c, e1, e2, RC.cho e3 hc⟩⟩
theorem Own.vals {w : World} {base : Nat} {vs : List Value} {xs : List (List UInt8)} (h : Own w base vs xs) : RVs w vs xs :=
  ⟨h.len, fun j v x hv hx => by obtain ⟨A, c, e1, e2, e3, _⟩ := own_form (h.own j v x hv hx); exact ⟨A, c, e1, e2, e3⟩⟩
theorem ch_cho {w w' : World} {c c' cap cap' : Nat} {vs us : List Value} (h : Ch w c cap vs) (hc : Ch w c' cap' us) (hg : w.grownBy w' (some c')) (hne : c ≠ c') : Ch w' c cap vs := h.grown hg (by simp; exact hne)
end Go.Proofs.Ytkgkbmiacomhdaa
