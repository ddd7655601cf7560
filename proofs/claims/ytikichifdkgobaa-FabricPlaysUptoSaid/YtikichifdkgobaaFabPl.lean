/- FabricPlays: the state of its loop and the steps. -/
import Derived.Test.YtikichifdkgobaaFabNum
import Derived.Test.YtikichifdkgobaaFabTk
namespace Go.Proofs.Ytikichifdkgobaa
set_option linter.unusedVariables false
set_option linter.unusedSimpArgs false
open Go.RowKit

/-- What both hold. -/
structure Pl (w wr : World) (B gf gm : Nat) (last : Int) (fl ml : Value) (l l2 : List (Lh × Value)) (xs : List (List UInt8)) : Prop where
  fb : Fb wr B gf last fl l xs
  rb : Rb wr B gm last ml l2 xs
  hd : l2.map (·.1) = l.map (·.1)
  dis : ∀ b, fl.ownBlock = some b → ml.ownBlock ≠ some b
  xl : ∀ x ∈ xs, x.length ≤ 1048576
  bel : Below w.heap.size w wr
  ids : w.heap.size ≤ B ∧ B ≤ gf ∧ B ≤ gm ∧ B ≤ wr.heap.size
theorem Pl.below {w wr w' : World} {B gf gm : Nat} {last : Int} {fl ml : Value} {l l2 : List (Lh × Value)} {xs : List (List UInt8)} (h : Pl w wr B gf gm last fl ml l l2 xs) (hb : Below wr.heap.size wr w') : Pl w w' B gf gm last fl ml l l2 xs :=
  ⟨h.fb.below hb, h.rb.below hb, h.hd, h.dis, h.xl, below_call h.bel hb, ⟨h.ids.1, h.ids.2.1, h.ids.2.2.1, Nat.le_trans h.ids.2.2.2 hb.size⟩⟩
theorem Pl.ne {w wr : World} {B gf gm : Nat} {last : Int} {fl ml : Value} {l l2 : List (Lh × Value)} {xs : List (List UInt8)} (h : Pl w wr B gf gm last fl ml l l2 xs) : gf ≠ gm := blk_ne_blk h.fb.blk h.rb.blk (by decide)
/-- The fabric alone went on. -/
theorem pl_mid {w wr w2 : World} {B gf gm : Nat} {last : Int} {fl fl2 ml : Value} {l l2 : List (Lh × Value)} {xs : List (List UInt8)} (h : Pl w wr B gf gm last fl ml l l2 xs) (hc : Chg wr w2 (fun b => b = gf ∨ fl.ownBlock = some b)) (ho : fl2.ownBlock = fl.ownBlock ∨ ∃ b, fl2.ownBlock = some b ∧ wr.heap.size ≤ b) :
    Rb w2 B gm last ml l2 xs ∧ (∀ b, fl2.ownBlock = some b → ml.ownBlock ≠ some b) ∧ Below w.heap.size w w2 ∧ B ≤ w2.heap.size := by
  refine ⟨⟨hc.blk h.rb.blk (fun e => ?_), hc.row h.rb.own (fun b hb e => ?_), h.rb.rows.chg hc (fun v hv b hb e => ?_)⟩, ?_, h.bel.trans (hc.below (Nat.le_trans h.ids.1 h.ids.2.2.2) (fun k hk => ?_)), Nat.le_trans h.ids.2.2.2 hc.2.2.2.1⟩
  · rcases e with e | e
    · exact h.ne e.symm
    · exact own_blk_ne h.fb.own h.rb.blk (by decide) _ e rfl
  · rcases e with e | e
    · exact own_blk_ne h.rb.own h.fb.blk (by decide) b hb e
    · exact h.dis b e hb
  · obtain ⟨x, hx⟩ := h.rb.rows.mem hv
    rcases e with e | e
    · exact own_blk_ne hx h.fb.blk (by decide) b hb e
    · exact own_not_types hx h.fb.own (by decide) b hb e
  · intro b hb e
    rcases ho with ho | ⟨q, ho, hq⟩
    · rw [ho] at hb; exact h.dis b hb e
    · rw [ho] at hb
      injection hb with hb
      have := (own_lt h.rb.own e).2
      omega
  · rcases hk with rfl | hk
    · exact Nat.le_trans h.ids.1 h.ids.2.1
    · exact Nat.le_trans h.ids.1 (own_lt h.fb.own hk).1
/-- The document's fabric went on behind it. -/
theorem pl_end {w w2 w3 : World} {B gf gm : Nat} {last last2 : Int} {fl ml ml2 : Value} {l l2 l3 : List (Lh × Value)} {xs ys : List (List UInt8)} (hB : w.heap.size ≤ B ∧ B ≤ gf ∧ B ≤ gm ∧ B ≤ w2.heap.size) (hf : Fb w2 B gf last2 fl l xs) (hr : Rb w2 B gm last ml l3 ys) (hr3 : Rb w3 B gm last2 ml2 l2 xs)
    (hd : l2.map (·.1) = l.map (·.1)) (dis : ∀ b, fl.ownBlock = some b → ml.ownBlock ≠ some b) (hxl : ∀ x ∈ xs, x.length ≤ 1048576) (hb : Below w.heap.size w w2) (hc : Chg w2 w3 (fun b => b = gm ∨ ml.ownBlock = some b)) (ho : ml2.ownBlock = ml.ownBlock ∨ ∀ b, ml2.ownBlock = some b → w2.heap.size ≤ b) :
    Pl w w3 B gf gm last2 fl ml2 l l2 xs := by
  have hne : gf ≠ gm := blk_ne_blk hf.blk hr.blk (by decide)
  refine ⟨⟨hc.blk hf.blk (fun e => ?_), hc.row hf.own (fun b hb e => ?_), hf.rows.chg hc (fun v hv b hb e => ?_)⟩, hr3, hd, ?_, hxl, hb.trans (hc.below (Nat.le_trans hB.1 hB.2.2.2) (fun k hk => ?_)), ⟨hB.1, hB.2.1, hB.2.2.1, Nat.le_trans hB.2.2.2 hc.2.2.2.1⟩⟩
  · rcases e with e | e
    · exact hne e
    · exact own_blk_ne hr.own hf.blk (by decide) _ e rfl
  · rcases e with e | e
    · exact own_blk_ne hf.own hr.blk (by decide) b hb e
    · exact dis b hb e
  · obtain ⟨x, hx⟩ := hf.rows.mem hv
    rcases e with e | e
    · exact own_blk_ne hx hr.blk (by decide) b hb e
    · exact own_not_types hx hr.own (by decide) b hb e
  · intro b hb e
    rcases ho with ho | ho
    · rw [ho] at e; exact dis b hb e
    · have h1 := ho b e
      have h2 := (own_lt hf.own hb).2
      omega
  · rcases hk with rfl | hk
    · exact Nat.le_trans hB.1 hB.2.2.1
    · exact Nat.le_trans hB.1 (own_lt hr.own hk).1
/-- A block of bytes of neither is written. -/
theorem Pl.other {w wr w' : World} {B gf gm g : Nat} {last : Int} {fl ml : Value} {l l2 : List (Lh × Value)} {xs : List (List UInt8)} {cs : List Value} (h : Pl w wr B gf gm last fl ml l l2 xs) (hg : wr.grownBy w' (some g)) (hgb : Blk wr g 5 cs) (hB : B ≤ g)
    (h1 : ∀ v ∈ l.map (·.2), v.ownBlock ≠ some g) (h2 : ∀ v ∈ l2.map (·.2), v.ownBlock ≠ some g) : Pl w w' B gf gm last fl ml l l2 xs := by
  have hc := Chg.of hg (S := fun b => b = g) (fun b hb => by injection hb with hb; exact hb.symm)
  refine ⟨⟨hc.blk h.fb.blk (fun e => ?_), hc.row h.fb.own (fun b hb e => ?_), h.fb.rows.chg hc (fun v hv b hb e => ?_)⟩, ⟨hc.blk h.rb.blk (fun e => ?_), hc.row h.rb.own (fun b hb e => ?_), h.rb.rows.chg hc (fun v hv b hb e => ?_)⟩, h.hd, h.dis, h.xl, h.bel.trans (hc.below (Nat.le_trans h.ids.1 h.ids.2.2.2) (fun k hk => ?_)), ⟨h.ids.1, h.ids.2.1, h.ids.2.2.1, Nat.le_trans h.ids.2.2.2 hc.2.2.2.1⟩⟩
  · exact blk_ne_blk h.fb.blk hgb (by decide) e
  · exact own_blk_ne h.fb.own hgb (by decide) b hb e
  · exact h1 v hv (by rw [hb, e])
  · exact blk_ne_blk h.rb.blk hgb (by decide) e
  · exact own_blk_ne h.rb.own hgb (by decide) b hb e
  · exact h2 v hv (by rw [hb, e])
  · subst hk; exact Nat.le_trans h.ids.1 hB
theorem Ows.ltb {w : World} {base : Nat} {vs : List Value} {xs : List (List UInt8)} (h : Ows w base vs xs) {v : Value} (hv : v ∈ vs) {b : Nat} (hb : v.ownBlock = some b) : b < w.heap.size := by
  obtain ⟨x, ho⟩ := h.mem hv
  exact (own_lt ho hb).2
/-- Send: both put the letter; then the copy is written over. -/
theorem pl_send {w wa w1 w2 w3 w4 w5 : World} {B gf gm gb g n : Nat} {last : Int} {fl ml : Value} {l l2 : List (Lh × Value)} {xs : List (List UInt8)} {hd0 : Lh} {bs_ : List UInt8} {A2 : Option Addr} {c2 : Nat} {cs : List Value} (h : Pl w wa B gf gm last fl ml l l2 xs) (hb1 : Below wa.heap.size wa w1)
    (hg : wa.heap.size ≤ g) (hgb : Blk w1 g 5 cs) (hf : FPut w1 B gf gb last fl l xs hd0 bs_ A2 n c2 w2) (hr : RbPut w2 B gm last ml l2 xs hd0 bs_ n w3) (h34 : Below w3.heap.size w3 w4) (hg5 : w4.grownBy w5 (some g)) (hx : bs_.length ≤ 1048576) :
    ∃ fl5 ml5 l5 m5, l5.length = l.length + 1 ∧ Pl w w5 B gf gm (last + 1) fl5 ml5 l5 m5 (xs ++ [bs_]) := by
  obtain ⟨fl2, hF2, hrow2, hch2, hat2, -⟩ := hf
  obtain ⟨A3, c3, ml2, hR3, hrow3, hch3, hat3⟩ := hr
  have h1 := h.below hb1
  obtain ⟨m1, m2, m3, m4⟩ := pl_mid h1 hch2 hat2
  have hd2 : (l2 ++ [((⟨last + 1, hd0.src, hd0.dst, hd0.ctl⟩ : Lh), (.slice A3 n c3 : Value))]).map (·.1) = (l ++ [((⟨last + 1, hd0.src, hd0.dst, hd0.ctl⟩ : Lh), (.slice A2 n c2 : Value))]).map (·.1) := by
    rw [List.map_append, List.map_append, h.hd]
    rfl
  have hP3 := pl_end ⟨h1.ids.1, h1.ids.2.1, h1.ids.2.2.1, m4⟩ hF2 m1 hR3 hd2 m2 (fun x hx' => by
    rcases List.mem_append.1 hx' with hx' | hx'
    · exact h.xl x hx'
    · simp at hx'; subst hx'; exact hx) m3 hch3 (by
    rcases hat3 with e | ⟨q, e, hq⟩
    · exact .inl e
    · exact .inr (fun b hb => by rw [e] at hb; injection hb with hb; omega))
  have hgl1 := hgb.lt
  have hs2 := hch2.2.2.2.1
  have hgb2 : Blk w2 g 5 cs := hch2.blk hgb (fun e => by
    rcases e with e | e
    · exact blk_ne_blk hgb h1.fb.blk (by decide) e
    · exact own_blk_ne h1.fb.own hgb (by decide) _ e rfl)
  have hgb3 : Blk w3 g 5 cs := hch3.blk hgb2 (fun e => by
    rcases e with e | e
    · exact blk_ne_blk hgb2 m1.blk (by decide) e
    · exact own_blk_ne m1.own hgb2 (by decide) _ e rfl)
  have hP4 := hP3.below h34
  refine ⟨_, _, _, _, by simp, hP4.other hg5 (hgb3.kept h34) (Nat.le_trans h.ids.2.2.2 hg) (fun v hv e => ?_) (fun v hv e => ?_)⟩
  · rw [List.map_append] at hv
    rcases List.mem_append.1 hv with hv | hv
    · have := h.fb.rows.ltb hv e; omega
    · simp at hv; subst hv
      have := (own_lt hrow2 e).1; omega
  · rw [List.map_append] at hv
    rcases List.mem_append.1 hv with hv | hv
    · have := h.rb.rows.ltb hv e; omega
    · simp at hv; subst hv
      have := (own_lt hrow3 e).1; omega
/-- Copy. -/
theorem pl_copy {w wa w1 w2 w2' w3 : World} {B gf gm n : Nat} {last : Int} {fl ml : Value} {l l2 : List (Lh × Value)} {xs : List (List UInt8)} {hd0 : Lh} {bs_ : List UInt8} (h : Pl w wa B gf gm last fl ml l l2 xs) (hb1 : Below wa.heap.size wa w1)
    (hf : PutQ w1 B gf last fl l xs hd0 bs_ n w2) (hb2 : Below w2.heap.size w2 w2') (hr : RbPut w2' B gm last ml l2 xs hd0 bs_ n w3) (hx : bs_.length ≤ 1048576) :
    ∃ fl5 ml5 l5 m5, l5.length = l.length + 1 ∧ Pl w w3 B gf gm (last + 1) fl5 ml5 l5 m5 (xs ++ [bs_]) := by
  obtain ⟨gb, A2, c2, -, fl2, hF2, hrow2, hch2, hat2, -⟩ := hf
  obtain ⟨A3, c3, ml2, hR3, hrow3, hch3, hat3⟩ := hr
  have h1 := h.below hb1
  obtain ⟨m1, m2, m3, m4⟩ := pl_mid h1 hch2 hat2
  have hd2 : (l2 ++ [((⟨last + 1, hd0.src, hd0.dst, hd0.ctl⟩ : Lh), (.slice A3 n c3 : Value))]).map (·.1) = (l ++ [((⟨last + 1, hd0.src, hd0.dst, hd0.ctl⟩ : Lh), (.slice A2 n c2 : Value))]).map (·.1) := by
    rw [List.map_append, List.map_append, h.hd]
    rfl
  exact ⟨_, _, _, _, by simp, pl_end ⟨h1.ids.1, h1.ids.2.1, h1.ids.2.2.1, Nat.le_trans m4 hb2.size⟩ (hF2.below hb2) (m1.below hb2) hR3 hd2 m2 (fun x hx' => by
    rcases List.mem_append.1 hx' with hx' | hx'
    · exact h.xl x hx'
    · simp at hx'; subst hx'; exact hx) (below_call m3 hb2) hch3 (by
    rcases hat3 with e | ⟨q, e, hq⟩
    · exact .inl e
    · exact .inr (fun b hb => by rw [e] at hb; injection hb with hb; omega))⟩
/-- Take. -/
theorem pl_take {w wa w2 w3 w4 : World} {B gf gm p k c' : Nat} {last : Int} {A' : Option Addr} {fl ml : Value} {l l2 : List (Lh × Value)} {xs : List (List UInt8)} {bs_ : List UInt8} (h : Pl w wa B gf gm last fl ml l l2 xs) (hp : p < l.length) (hq : TakeQ wa B gf last fl l xs p A' k c' bs_ w2) (hb3 : Below w2.heap.size w2 w3) (hr : RbTk w3 B gm last l2 xs p w4) :
    ∃ fl5 ml5 l5 m5, l5.length = l.length - 1 ∧ Pl w w4 B gf gm last fl5 ml5 l5 m5 (xs.take p ++ xs.drop (p + 1)) := by
  obtain ⟨fl2, hF2, hrow2, hch2, ho2⟩ := hq
  obtain ⟨ml2, hR4, hch4, hn4⟩ := hr
  obtain ⟨m1, m2, m3, m4⟩ := pl_mid h hch2 (.inl ho2)
  have hd2 : (l2.take p ++ l2.drop (p + 1)).map (·.1) = (l.take p ++ l.drop (p + 1)).map (·.1) := by
    rw [List.map_append, List.map_append, List.map_take, List.map_take, List.map_drop, List.map_drop, h.hd]
  exact ⟨_, _, _, _, take_drop_all l p hp, pl_end ⟨h.ids.1, h.ids.2.1, h.ids.2.2.1, Nat.le_trans m4 hb3.size⟩ (hF2.below hb3) (m1.below hb3) hR4 hd2 m2 (fun x hx => h.xl x (mem_cut hx)) (below_call m3 hb3) (hch4.mono (fun b _ e => .inl e)) (.inr hn4)⟩
/-- The letter at a place, in the document's list. -/
theorem Pl.at_ {w wr : World} {B gf gm : Nat} {last : Int} {fl ml : Value} {l l2 : List (Lh × Value)} {xs : List (List UInt8)} (h : Pl w wr B gf gm last fl ml l l2 xs) {p : Nat} {hd0 : Lh} {v : Value} {x : List UInt8} (hv : l[p]? = some (hd0, v)) (hx : xs[p]? = some x) :
    ∃ A0 c0, l2[p]? = some (hd0, .slice A0 x.length c0) ∧ x.length ≤ c0 ∧ wr.ownsRow B 5 1 (.slice A0 x.length c0) x.length (x.map bv) := by
  have h1 := congrArg (·[p]?) h.hd
  simp only [List.getElem?_map, hv, Option.map_some] at h1
  obtain ⟨⟨a, u⟩, hu, ha⟩ := Option.map_eq_some_iff.1 h1
  simp only at ha
  subst ha
  have ho := h.rb.rows.own p u x (by rw [List.getElem?_map, hu]; rfl) hx
  obtain ⟨A0, c0, e, hc, -, -⟩ := own_form ho
  subst e
  exact ⟨A0, c0, hu, hc, ho⟩
theorem Pl.len {w wr : World} {B gf gm : Nat} {last : Int} {fl ml : Value} {l l2 : List (Lh × Value)} {xs : List (List UInt8)} (h : Pl w wr B gf gm last fl ml l l2 xs) : l2.length = l.length ∧ xs.length = l.length := by
  have h1 := congrArg List.length h.hd
  have h2 := h.fb.rows.len
  simp only [List.length_map] at h1 h2
  exact ⟨h1, h2.symm⟩
theorem btw_heads (l l2 : List (Lh × Value)) (a b : Int) (h : l2.map (·.1) = l.map (·.1)) : btw l2 a b = btw l a b := by
  have e : ∀ l : List (Lh × Value), btw l a b = ((l.map (·.1)).filter fun q => q.src == a && q.dst == b).map (·.id) := by
    intro l
    unfold btw
    rw [List.filter_map, List.map_map]
    rfl
  rw [e, e, h]
end Go.Proofs.Ytikichifdkgobaa
