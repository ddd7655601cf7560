/- FabricTakes: the state of its loop and the steps. -/
import Derived.Test.YtikichifdkgobaaFabCopy
namespace Go.Proofs.Ytikichifdkgobaa
set_option linter.unusedVariables false
set_option linter.unusedSimpArgs false
open Go.RowKit

/-- Bytes of the arguments, or own bytes. -/
def Kp (w wr : World) (v : Value) (x : List UInt8) : Prop := (∃ A c, v = .slice A x.length c ∧ x.length ≤ c ∧ RB w A x) ∨ wr.ownsRow w.heap.size 5 1 v x.length (x.map bv)
theorem Kp.chg {w wr w' : World} {v : Value} {x : List UInt8} {S : Nat → Prop} (h : Kp w wr v x) (hc : Chg wr w' S) (hs : ∀ (u : Value) n (ys : List Value), wr.ownsRow w.heap.size 5 1 u n ys → ∀ b, u.ownBlock = some b → ¬ S b) : Kp w w' v x := by
  rcases h with h | h
  · exact .inl h
  · exact .inr (hc.row h (hs v _ _ h))
theorem Kp.rb {w wr : World} {v : Value} {x : List UInt8} (h : Kp w wr v x) (hb : Below w.heap.size w wr) : ∃ A c, v = .slice A x.length c ∧ x.length ≤ c ∧ RB wr A x := by
  rcases h with ⟨A, c, e, hc, hr⟩ | h
  · exact ⟨A, c, e, hc, hr.below hb⟩
  · obtain ⟨A, c, e, hc, hr, _⟩ := own_form h
    exact ⟨A, c, e, hc, hr⟩
structure TkS (w wr : World) (B : Nat) (fl sv tv : Value) (l S : List (Lh × Value)) (xs C : List (List UInt8)) (T : List Int) : Prop where
  fb : Fb wr B B (S.length : Int) fl l xs
  sent : wr.ownsRow w.heap.size 37 5 sv S.length (lcs S)
  taken : wr.ownsRow w.heap.size 3 1 tv T.length (T.map (Value.int .i64))
  dis : ∀ b, fl.ownBlock = some b → sv.ownBlock ≠ some b
  lenC : C.length = S.length
  kp : ∀ (j : Nat) v x, S[j]? = some v → C[j]? = some x → Kp w wr v.2 x
  ids : ∀ (j : Nat) v, S[j]? = some v → v.1.id = (j : Int) + 1
  mem : ∀ (j : Nat) v x, l[j]? = some v → xs[j]? = some x → ∃ (i : Nat) (s : Lh × Value), S[i]? = some s ∧ s.1 = v.1 ∧ C[i]? = some x
  nodup : (l.map (·.1.id) ++ T).Nodup
  tb : ∀ t ∈ T, t ≤ (S.length : Int)
  cnt : l.length + T.length = S.length
  bel : Below w.heap.size w wr
  xl : ∀ x ∈ xs, x.length ≤ 1048576
theorem TkS.below {w wr w' : World} {B : Nat} {fl sv tv : Value} {l S : List (Lh × Value)} {xs C : List (List UInt8)} {T : List Int} (h : TkS w wr B fl sv tv l S xs C T) (hb : Below wr.heap.size wr w') : TkS w w' B fl sv tv l S xs C T :=
  ⟨h.fb.below hb, own_below h.sent hb, own_below h.taken hb, h.dis, h.lenC, fun j v x hv hx => (h.kp j v x hv hx).chg (Chg.of_below (S := fun _ => False) hb) (fun _ _ _ _ _ _ e => e), h.ids, h.mem, h.nodup, h.tb, h.cnt, below_call h.bel hb, h.xl⟩
theorem Fb.grown {w w' : World} {base gf : Nat} {last : Int} {fl : Value} {l : List (Lh × Value)} {xs : List (List UInt8)} {row : Option Nat} (h : Fb w base gf last fl l xs) (hg : w.grownBy w' row) (h1 : ∀ b, row = some b → b ≠ gf) (h2 : ∀ b, row = some b → fl.ownBlock ≠ some b) (h3 : ∀ b, row = some b → ∀ (u : Value) n (ys : List Value), w.ownsRow base 5 1 u n ys → u.ownBlock ≠ some b) : Fb w' base gf last fl l xs := by
  have hc := Chg.of hg (S := fun b => row = some b) (fun b hb => hb)
  refine ⟨hc.blk h.blk (fun e => h1 gf e rfl), hc.row h.own (fun b hb e => h2 b e hb), h.rows.chg hc (fun v hv b hb e => ?_)⟩
  obtain ⟨x, ho⟩ := h.rows.mem hv
  exact h3 b e v _ _ ho hb
theorem get_snoc {α : Type} (l : List α) (a : α) (j : Nat) (v : α) (h : (l ++ [a])[j]? = some v) : l[j]? = some v ∨ (j = l.length ∧ v = a) := by
  by_cases hj : j < l.length
  · rw [List.getElem?_append_left hj] at h
    exact .inl h
  · rw [List.getElem?_append_right (by omega)] at h
    by_cases h0 : j = l.length
    · subst h0
      simp at h
      exact .inr ⟨rfl, h.symm⟩
    · rw [List.getElem?_eq_none (by simp; omega)] at h
      cases h
theorem tk_sent {w wr w5 w6 w7 : World} {B : Nat} {fl fl5 sv sv7 tv v v5 : Value} {l S : List (Lh × Value)} {xs C : List (List UInt8)} {T : List Int} {hd : Lh} {x : List UInt8} (h : TkS w wr B fl sv tv l S xs C T) (hBw : w.heap.size ≤ B)
    (hF5 : Fb w5 B B ((S.length : Int) + 1) fl5 (l ++ [(hd, v5)]) (xs ++ [x])) (hid : hd.id = (S.length : Int) + 1)
    (hch : Chg wr w5 (fun b => b = B ∨ fl.ownBlock = some b)) (hat5 : fl5.ownBlock = fl.ownBlock ∨ ∃ b, fl5.ownBlock = some b ∧ wr.heap.size ≤ b)
    (hb5 : Below w5.heap.size w5 w6) (hown : w7.ownsRow w.heap.size 37 5 sv7 (S.length + 1) (lcs S ++ ltc hd v)) (hg : w6.grownBy w7 sv.ownBlock) (hat7 : At w6 sv sv7)
    (hk : Kp w w6 v x) (hxl : x.length ≤ 1048576) : TkS w w7 B fl5 sv7 tv (l ++ [(hd, v5)]) (S ++ [(hd, v)]) (xs ++ [x]) (C ++ [x]) T := by
  have hF6 := hF5.below hb5
  have hsv : ∀ b, sv.ownBlock = some b → b < wr.heap.size := fun b hb => (own_lt h.sent hb).2
  have hsB : ∀ b, sv.ownBlock = some b → b ≠ B := own_blk_ne h.sent h.fb.blk (by decide)
  have hs5 : w5.ownsRow w.heap.size 37 5 sv S.length (lcs S) := hch.row h.sent (fun b hb e => by
    rcases e with e | e
    · exact hsB b hb e
    · exact h.dis b e hb)
  have hs6 := own_below hs5 hb5
  have h55 := hb5.size
  have hc5 := hch.2.2.2.1
  have hd5 : ∀ b, fl5.ownBlock = some b → sv.ownBlock ≠ some b := fun b hb e => by
    rcases hat5 with h5 | ⟨q, h5, hq⟩
    · rw [h5] at hb; exact h.dis b hb e
    · rw [h5] at hb
      injection hb with hb
      have := hsv b e
      omega
  have hall : Chg wr w7 (fun b => b = B ∨ fl.ownBlock = some b ∨ sv.ownBlock = some b) :=
    ((hch.then_ (S := fun b => b = B ∨ fl.ownBlock = some b) (T := fun _ => False) (Chg.of_below hb5) (fun _ _ e => e.elim)).mono (fun b _ e => by rcases e with e | e; exact .inl e; exact .inr (.inl e))).fresh hg (fun b hb _ => .inr (.inr hb))
  have hne : ∀ (u : Value) n (ys : List Value) (base : Nat), wr.ownsRow base 5 1 u n ys → ∀ b, u.ownBlock = some b → ¬ (b = B ∨ fl.ownBlock = some b ∨ sv.ownBlock = some b) := fun u n ys base ho b hb e => by
    rcases e with e | e | e
    · exact own_blk_ne ho h.fb.blk (by decide) b hb e
    · exact own_not_types ho h.fb.own (by decide) b hb e
    · exact own_not_types ho h.sent (by decide) b hb e
  have hlx : xs.length = l.length := by have := h.fb.rows.len; simpa using this.symm
  refine ⟨?_, ?_, ?_, ?_, ?_, ?_, ?_, ?_, ?_, ?_, ?_, ?_, ?_⟩
  · have e : ((S ++ [(hd, v)]).length : Int) = (S.length : Int) + 1 := by simp
    rw [e]
    exact hF6.grown hg (fun b hb => own_blk_ne hs6 hF6.blk (by decide) b hb) (fun b hb e => hd5 b e hb) (fun b hb u n ys ho e => own_not_types ho hs6 (by decide) b e hb)
  · rw [List.length_append, lcs_append]
    simpa [lcs] using hown
  · refine hall.row h.taken (fun b hb e => ?_)
    rcases e with e | e | e
    · exact own_blk_ne h.taken h.fb.blk (by decide) b hb e
    · exact own_not_types h.taken h.fb.own (by decide) b hb e
    · exact own_not_types h.taken h.sent (by decide) b hb e
  · intro b hb e
    rcases hat7 with e7 | e7
    · rw [e7] at e; exact hd5 b hb e
    · rw [e7] at e
      injection e with e
      have := (own_lt hF6.own hb).2
      omega
  · simp [h.lenC]
  · intro j u y hu hy
    rcases get_snoc _ _ _ _ hu with hu | ⟨rfl, rfl⟩
    · rcases get_snoc _ _ _ _ hy with hy | ⟨rfl, rfl⟩
      · exact (h.kp j u y hu hy).chg hall (fun u n ys ho => hne u n ys _ ho)
      · have := (List.getElem?_eq_some_iff.1 hu).1
        have := h.lenC
        omega
    · rcases get_snoc _ _ _ _ hy with hy | ⟨_, rfl⟩
      · have := (List.getElem?_eq_some_iff.1 hy).1
        have := h.lenC
        omega
      · exact hk.chg (Chg.of hg (S := fun b => sv.ownBlock = some b) (fun b hb => hb)) (fun u n ys ho b hb e => own_not_types ho hs6 (by decide) b hb e)
  · intro j u hu
    rcases get_snoc _ _ _ _ hu with hu | ⟨rfl, rfl⟩
    · exact h.ids j u hu
    · exact hid
  · intro j u y hu hy
    rcases get_snoc _ _ _ _ hu with hu | ⟨rfl, rfl⟩
    · rcases get_snoc _ _ _ _ hy with hy | ⟨rfl, rfl⟩
      · obtain ⟨i, s, h1, h2, h3⟩ := h.mem j u y hu hy
        exact ⟨i, s, by rw [List.getElem?_append_left (List.getElem?_eq_some_iff.1 h1).1]; exact h1, h2, by rw [List.getElem?_append_left (List.getElem?_eq_some_iff.1 h3).1]; exact h3⟩
      · have := (List.getElem?_eq_some_iff.1 hu).1
        omega
    · rcases get_snoc _ _ _ _ hy with hy | ⟨_, rfl⟩
      · have := (List.getElem?_eq_some_iff.1 hy).1
        omega
      · exact ⟨S.length, (hd, v), by simp, rfl, by rw [← h.lenC]; simp⟩
  · have hnew : hd.id ∉ l.map (·.1.id) ++ T := by
      intro hm
      rcases List.mem_append.1 hm with hm | hm
      · obtain ⟨q, hq, e⟩ := List.mem_map.1 hm
        obtain ⟨j, hj⟩ := List.getElem?_of_mem hq
        have hjl := (List.getElem?_eq_some_iff.1 hj).1
        obtain ⟨i, s, h1, h2, _⟩ := h.mem j q _ hj (List.getElem?_eq_getElem (show j < xs.length by omega))
        have h3 := h.ids i s h1
        have h4 := (List.getElem?_eq_some_iff.1 h1).1
        rw [h2] at h3
        omega
      · have := h.tb _ hm
        omega
    have hp : ((l ++ [(hd, v5)]).map (·.1.id) ++ T).Perm (hd.id :: (l.map (·.1.id) ++ T)) := by
      simp only [List.map_append, List.map_cons, List.map_nil, List.append_assoc, List.cons_append, List.nil_append]
      exact List.perm_middle
    exact hp.nodup_iff.2 (List.nodup_cons.2 ⟨hnew, h.nodup⟩)
  · intro t ht
    have := h.tb t ht
    simp; omega
  · have := h.cnt
    simp; omega
  · exact (hall.mono (T := fun b => b = B ∨ fl.ownBlock = some b ∨ sv.ownBlock = some b) (fun _ _ e => e)) |>.below (Nat.le_trans hBw (Nat.le_of_lt h.fb.blk.lt)) (fun k hk => by
      rcases hk with rfl | hk | hk
      · exact hBw
      · exact Nat.le_trans hBw (own_lt h.fb.own hk).1
      · exact (own_lt h.sent hk).1) |> h.bel.trans
  · intro y hy
    rcases List.mem_append.1 hy with hy | hy
    · exact h.xl y hy
    · simp at hy; subst hy; exact hxl
theorem get_cut {α : Type} (l : List α) (p j : Nat) (v : α) (h : (l.take p ++ l.drop (p + 1))[j]? = some v) (hp : p < l.length) : l[if j < p then j else j + 1]? = some v := by
  have hl : (l.take p).length = p := by rw [List.length_take]; omega
  by_cases hj : j < p
  · rw [if_pos hj]
    rw [List.getElem?_append_left (by omega), List.getElem?_take, if_pos hj] at h
    exact h
  · rw [if_neg hj]
    rw [List.getElem?_append_right (by omega), hl, List.getElem?_drop] at h
    rw [← h]
    congr 1
    omega
theorem mem_cut {α : Type} {l : List α} {p : Nat} {v : α} (h : v ∈ l.take p ++ l.drop (p + 1)) : v ∈ l := by
  rcases List.mem_append.1 h with h | h
  · exact List.mem_of_mem_take h
  · exact List.mem_of_mem_drop h
theorem tk_take {w wr w5 w6 w7 : World} {B p k c' : Nat} {A' : Option Addr} {fl sv tv tv7 v : Value} {l S : List (Lh × Value)} {xs C : List (List UInt8)} {T : List Int} {hd : Lh} {bs_ : List UInt8} (h : TkS w wr B fl sv tv l S xs C T) (hBw : w.heap.size ≤ B)
    (hp : l[p]? = some (hd, v)) (htq : TakeQ wr B B (S.length : Int) fl l xs p A' k c' bs_ w5) (hb5 : Below w5.heap.size w5 w6)
    (hown : w7.ownsRow w.heap.size 3 1 tv7 (T.length + 1) (T.map (Value.int .i64) ++ [.int .i64 hd.id])) (hg : w6.grownBy w7 tv.ownBlock) :
    (∃ fl7, TkS w w7 B fl7 sv tv7 (l.take p ++ l.drop (p + 1)) S (xs.take p ++ xs.drop (p + 1)) C (T ++ [hd.id])) ∧ w7.ownsRow wr.heap.size 5 1 (.slice A' k c') k (bs_.map bv) := by
  obtain ⟨fl5, hF5, hrow5, hch, hfb⟩ := htq
  have hpl : p < l.length := (List.getElem?_eq_some_iff.1 hp).1
  have hF6 := hF5.below hb5
  have hsB : ∀ b, sv.ownBlock = some b → b ≠ B := own_blk_ne h.sent h.fb.blk (by decide)
  have hs5 : w5.ownsRow w.heap.size 37 5 sv S.length (lcs S) := hch.row h.sent (fun b hb e => by
    rcases e with e | e
    · exact hsB b hb e
    · exact h.dis b e hb)
  have ht5 : w5.ownsRow w.heap.size 3 1 tv T.length (T.map (Value.int .i64)) := hch.row h.taken (fun b hb e => by
    rcases e with e | e
    · exact own_blk_ne h.taken h.fb.blk (by decide) b hb e
    · exact own_not_types h.taken h.fb.own (by decide) b hb e)
  have hs6 := own_below hs5 hb5
  have ht6 := own_below ht5 hb5
  have hr6 := own_below hrow5 hb5
  have hcg := Chg.of hg (S := fun b => tv.ownBlock = some b) (fun b hb => hb)
  have hall : Chg wr w7 (fun b => b = B ∨ fl.ownBlock = some b ∨ tv.ownBlock = some b) :=
    ((hch.then_ (S := fun b => b = B ∨ fl.ownBlock = some b) (T := fun _ => False) (Chg.of_below hb5) (fun _ _ e => e.elim)).mono (fun b _ e => by rcases e with e | e; exact .inl e; exact .inr (.inl e))).fresh hg (fun b hb _ => .inr (.inr hb))
  have hlx : xs.length = l.length := by have := h.fb.rows.len; simpa using this.symm
  have hpm : l.Perm ((hd, v) :: (l.take p ++ l.drop (p + 1))) := by
    have e : l = l.take p ++ (hd, v) :: l.drop (p + 1) := by
      have h1 := List.drop_eq_getElem_cons hpl
      have h2 : l[p] = (hd, v) := (List.getElem?_eq_some_iff.1 hp).2
      rw [h2] at h1
      rw [← h1, List.take_append_drop]
    exact (List.Perm.of_eq e).trans List.perm_middle
  obtain ⟨i0, s0, q1, q2, _⟩ := h.mem p _ _ hp (List.getElem?_eq_getElem (show p < xs.length by omega))
  have hidle : hd.id ≤ (S.length : Int) := by
    have h3 := h.ids i0 s0 q1
    have h4 := (List.getElem?_eq_some_iff.1 q1).1
    rw [q2] at h3
    simp only at h3
    omega
  refine ⟨⟨fl5, ?_, ?_, ?_, ?_, h.lenC, ?_, h.ids, ?_, ?_, ?_, ?_, ?_, ?_⟩, hcg.row hr6 (fun b hb e => own_not_types hr6 ht6 (by decide) b hb e)⟩
  · exact hF6.grown hg (fun b hb => own_blk_ne ht6 hF6.blk (by decide) b hb) (fun b hb e => own_not_types ht6 hF6.own (by decide) b hb e) (fun b hb u n ys ho e => own_not_types ho ht6 (by decide) b e hb)
  · exact hcg.row hs6 (fun b hb e => own_not_types hs6 ht6 (by decide) b hb e)
  · rw [List.length_append, List.map_append]
    exact hown
  · rw [hfb]; exact h.dis
  · intro j u y hu hy
    exact (h.kp j u y hu hy).chg hall (fun u n ys ho b hb e => by
      rcases e with e | e | e
      · exact own_blk_ne ho h.fb.blk (by decide) b hb e
      · exact own_not_types ho h.fb.own (by decide) b hb e
      · exact own_not_types ho h.taken (by decide) b hb e)
  · intro j u y hu hy
    exact h.mem _ u y (get_cut l p j u hu hpl) (get_cut xs p j y hy (by omega))
  · have hp2 : (l.map (·.1.id) ++ T).Perm ((l.take p ++ l.drop (p + 1)).map (·.1.id) ++ (T ++ [hd.id])) := by
      have h1 := (hpm.map (·.1.id)).append_right T
      simp only [List.map_cons, List.cons_append] at h1
      refine h1.trans ?_
      rw [← List.append_assoc]
      exact (List.perm_append_singleton _ _).symm
    exact hp2.nodup_iff.1 h.nodup
  · intro t ht
    rcases List.mem_append.1 ht with ht | ht
    · exact h.tb t ht
    · simp at ht; omega
  · have := h.cnt
    rw [take_drop_all l p hpl]
    simp; omega
  · exact h.bel.trans (hall.below (Nat.le_trans hBw (Nat.le_of_lt h.fb.blk.lt)) (fun k hk => by
      rcases hk with rfl | hk | hk
      · exact hBw
      · exact Nat.le_trans hBw (own_lt h.fb.own hk).1
      · exact (own_lt h.taken hk).1))
  · intro y hy
    exact h.xl y (mem_cut hy)
end Go.Proofs.Ytikichifdkgobaa
