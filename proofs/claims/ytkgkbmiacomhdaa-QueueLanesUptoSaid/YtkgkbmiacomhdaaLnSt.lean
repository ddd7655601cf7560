/- The state of a round of QueueLanes. -/
import Derived.Test.YtkgkbmiacomhdaaQueuePlaysWalk
import Derived.Test.YtkgkbmiacomhdaaRTakeL
namespace Go.Proofs.Ytkgkbmiacomhdaa
set_option linter.unusedVariables false
set_option linter.unusedSimpArgs false
open Go.RowKit Go.Conc

/-- Rows that the call owns, which of them may be one. -/
structure Owl (w : World) (base : Nat) (vs : List Value) (xs : List (List UInt8)) : Prop where
  len : vs.length = xs.length
  own : ∀ (j : Nat) v x, vs[j]? = some v → xs[j]? = some x → w.ownsRow base 5 1 v x.length (x.map bv)
theorem Own.owl {w : World} {base : Nat} {vs : List Value} {xs : List (List UInt8)} (h : Own w base vs xs) : Owl w base vs xs := ⟨h.len, h.own⟩
theorem Owl.nil (w : World) (base : Nat) : Owl w base [] [] := ⟨rfl, fun j v x h => by simp at h⟩
theorem Owl.at_ {w : World} {base : Nat} {vs : List Value} {xs : List (List UInt8)} (h : Owl w base vs xs) {j : Nat} {v : Value} (hv : vs[j]? = some v) : ∃ x, xs[j]? = some x ∧ w.ownsRow base 5 1 v x.length (x.map bv) := by
  have hj : j < xs.length := by rw [← h.len]; exact (List.getElem?_eq_some_iff.1 hv).1
  exact ⟨_, List.getElem?_eq_getElem hj, h.own j v _ hv (List.getElem?_eq_getElem hj)⟩
theorem Owl.mem {w : World} {base : Nat} {vs : List Value} {xs : List (List UInt8)} (h : Owl w base vs xs) {v : Value} (hv : v ∈ vs) : ∃ x : List UInt8, w.ownsRow base 5 1 v x.length (x.map bv) := by
  obtain ⟨j, hj⟩ := List.getElem?_of_mem hv
  obtain ⟨x, _, ho⟩ := h.at_ hj
  exact ⟨x, ho⟩
theorem Owl.lt {w : World} {base : Nat} {vs : List Value} {xs : List (List UInt8)} (h : Owl w base vs xs) {v : Value} (hv : v ∈ vs) {b : Nat} (hb : v.ownBlock = some b) : base ≤ b ∧ b < w.heap.size := by
  obtain ⟨x, ho⟩ := h.mem hv
  exact own_lt ho hb
theorem Owl.below {w w' : World} {base : Nat} {vs : List Value} {xs : List (List UInt8)} (h : Owl w base vs xs) (hb : Below w.heap.size w w') : Owl w' base vs xs := ⟨h.len, fun j v x hv hx => own_below (h.own j v x hv hx) hb⟩
theorem Owl.cho {w w' : World} {base : Nat} {vs : List Value} {xs : List (List UInt8)} (h : Owl w base vs xs) (hc : ChO w w') : Owl w' base vs xs := ⟨h.len, fun j v x hv hx => own_cho (h.own j v x hv hx) hc⟩
theorem Owl.chg {w w' : World} {S : Nat → Prop} {base : Nat} {vs : List Value} {xs : List (List UInt8)} (h : Owl w base vs xs) (hc : Chg w w' S) (hn : ∀ v ∈ vs, ∀ b, v.ownBlock = some b → ¬ S b) : Owl w' base vs xs :=
  ⟨h.len, fun j v x hv hx => hc.row (h.own j v x hv hx) (hn v (List.mem_of_getElem? hv))⟩
theorem Owl.weaken {w : World} {base base' : Nat} {vs : List Value} {xs : List (List UInt8)} (h : Owl w base vs xs) (hb : base' ≤ base) : Owl w base' vs xs := ⟨h.len, fun j v x hv hx => own_weaken (h.own j v x hv hx) hb⟩
theorem Owl.drop {w : World} {base : Nat} {vs : List Value} {xs : List (List UInt8)} (h : Owl w base vs xs) (k : Nat) : Owl w base (vs.drop k) (xs.drop k) :=
  ⟨by rw [List.length_drop, List.length_drop, h.len], fun j v x hv hx => by rw [List.getElem?_drop] at hv hx; exact h.own _ v x hv hx⟩
theorem Owl.take {w : World} {base : Nat} {vs : List Value} {xs : List (List UInt8)} (h : Owl w base vs xs) (k : Nat) : Owl w base (vs.take k) (xs.take k) :=
  ⟨by rw [List.length_take, List.length_take, h.len], fun j v x hv hx => by
    rw [List.getElem?_take] at hv hx
    split at hv
    · rename_i hj
      rw [if_pos hj] at hx
      exact h.own j v x hv hx
    · cases hv⟩
theorem Owl.append {w : World} {base : Nat} {vs us : List Value} {xs ys : List (List UInt8)} (h : Owl w base vs xs) (h2 : Owl w base us ys) : Owl w base (vs ++ us) (xs ++ ys) := by
  have hl := h.len
  refine ⟨by rw [List.length_append, List.length_append, h.len, h2.len], fun j v x hv hx => ?_⟩
  by_cases hj : j < vs.length
  · rw [List.getElem?_append_left hj] at hv
    rw [List.getElem?_append_left (by omega)] at hx
    exact h.own j v x hv hx
  · rw [List.getElem?_append_right (by omega)] at hv
    rw [List.getElem?_append_right (by omega), ← hl] at hx
    exact h2.own _ v x hv hx
theorem Owl.vals {w : World} {base : Nat} {vs : List Value} {xs : List (List UInt8)} (h : Owl w base vs xs) : RVs w vs xs :=
  ⟨h.len, fun j v x hv hx => by
    obtain ⟨A, c, rfl, hc, hr, _⟩ := own_form (h.own j v x hv hx)
    exact ⟨A, c, rfl, hc, hr⟩⟩
theorem Owl.sl {w : World} {base : Nat} {vs : List Value} {xs : List (List UInt8)} (h : Owl w base vs xs) : ∀ v ∈ vs, IsSl v := fun v hv => by
  obtain ⟨x, ho⟩ := h.mem hv
  obtain ⟨A, c, rfl, -, -, -⟩ := own_form ho
  exact ⟨A, _, c, rfl⟩
theorem La.chg {w w' : World} {S : Nat → Prop} {gl gu cu gp cp cap : Nat} {us vs : List Value} (h : La w gl gu cu gp cp cap us vs) (hc : Chg w w' S) (h1 : ¬ S gl) (h2 : ¬ S gu) (h3 : ¬ S cu) (h4 : ¬ S gp) (h5 : ¬ S cp) : La w' gl gu cu gp cp cap us vs :=
  ⟨hc.blk h.l h1, ⟨hc.blk h.u.1 h2, hc.ch h.u.2 h3⟩, ⟨hc.blk h.p.1 h4, hc.ch h.p.2 h5⟩, h.ne⟩
/-- The state of a round. -/
structure LnR (w : World) (gl gu cu gp cp gm size : Nat) (xs ys : List (List UInt8)) (us vs mu mp : List Value) (ru rp : Value) (wx : World) : Prop where
  l : La wx gl gu cu gp cp size us vs
  m : Rl wx w.heap.size gm (size : Int) ru rp mu mp
  ou : Owl wx w.heap.size us xs
  ov : Owl wx w.heap.size vs ys
  om : Owl wx w.heap.size mu xs
  op : Owl wx w.heap.size mp ys
  room : xs.length ≤ size ∧ ys.length ≤ size
  bel : Below w.heap.size w wx
  ids : LaB w.heap.size gl gu cu gp cp ∧ w.heap.size ≤ gm
def LnSt (w : World) (gl gu cu gp cp gm size : Nat) (xs ys : List (List UInt8)) (wx : World) : Prop := ∃ us vs mu mp ru rp, LnR w gl gu cu gp cp gm size xs ys us vs mu mp ru rp wx
def LnOut (w : World) (gl gu cu gp cp gm size : Nat) (wx : World) : Prop := ∃ xs ys, (∀ x ∈ xs ++ ys, x.length ≤ 1048576) ∧ LnSt w gl gu cu gp cp gm size xs ys wx
theorem LnR.kept {w wr wa : World} {gl gu cu gp cp gm size : Nat} {xs ys : List (List UInt8)} {us vs mu mp : List Value} {ru rp : Value} (h : LnR w gl gu cu gp cp gm size xs ys us vs mu mp ru rp wr) (hb : Below wr.heap.size wr wa) : LnR w gl gu cu gp cp gm size xs ys us vs mu mp ru rp wa :=
  ⟨h.l.kept hb, h.m.kept hb, h.ou.below hb, h.ov.below hb, h.om.below hb, h.op.below hb, h.room, below_call h.bel hb, h.ids⟩
theorem rl_cho {w w' : World} {base gm : Nat} {size : Int} {ru rp : Value} {mu mp : List Value} (h : Rl w base gm size ru rp mu mp) (hc : ChO w w') : Rl w' base gm size ru rp mu mp := ⟨h.blk.cho hc, own_cho h.u hc, own_cho h.p hc, h.dj⟩
/-- What the blocks of lanes are not. -/
theorem la_not {w : World} {gl gu cu gp cp cap gm base n : Nat} {us vs cs mv : List Value} {r : Value} (h : La w gl gu cu gp cp cap us vs) (hb : Blk w gm 64 cs) (ho : w.ownsRow base 42 1 r n mv) :
    ¬ (gl = gm ∨ r.ownBlock = some gl) ∧ ¬ (gu = gm ∨ r.ownBlock = some gu) ∧ ¬ (cu = gm ∨ r.ownBlock = some cu) ∧ ¬ (gp = gm ∨ r.ownBlock = some gp) ∧ ¬ (cp = gm ∨ r.ownBlock = some cp) := by
  refine ⟨fun e => ?_, fun e => ?_, fun e => ?_, fun e => ?_, fun e => ?_⟩
  · rcases e with e | e
    · exact blk_ne_blk h.l hb (by decide) e
    · exact own_blk_ne ho h.l (by decide) _ e rfl
  · rcases e with e | e
    · exact blk_ne_blk h.u.1 hb (by decide) e
    · exact own_blk_ne ho h.u.1 (by decide) _ e rfl
  · rcases e with e | e
    · exact blk_not_chan hb h.u.2 e.symm
    · exact own_not_chan' ho h.u.2 _ e rfl
  · rcases e with e | e
    · exact blk_ne_blk h.p.1 hb (by decide) e
    · exact own_blk_ne ho h.p.1 (by decide) _ e rfl
  · rcases e with e | e
    · exact blk_not_chan hb h.p.2 e.symm
    · exact own_not_chan' ho h.p.2 _ e rfl
/-- Behind the two calls of Put on this lane and the looks at the copies. -/
theorem ln_putU {w wr w1 w2 w3 w4 : World} {gl gu cu gp cp gm size k : Nat} {xs ys ps : List (List UInt8)} {us vs mu mp news : List Value} {ru rp : Value} (h : LnR w gl gu cu gp cp gm size xs ys us vs mu mp ru rp wr) (hk : min ps.length (size - xs.length) = k) (hb1 : Below wr.heap.size wr w1)
    (hl2 : La w2 gl gu cu gp cp size (us ++ news) vs) (ho2 : Own w2 w1.heap.size news (ps.take k)) (hg2 : w1.grownBy w2 (some cu))
    (hr3 : RPutU w2 w.heap.size gm size rp ru.ownBlock mu ps k w3) (hc4 : Chg w3 w4 (fun b => wr.heap.size ≤ b ∧ b < w1.heap.size)) : LnSt w gl gu cu gp cp gm size (xs ++ ps.take k) ys w4 := by
  obtain ⟨mr3, mnews, hm3, hmo3, hc3, hmb3⟩ := hr3
  have hs1 := hb1.size
  have hs2 := hg2.size
  have hs3 := hc3.2.2.2.1
  have hws := h.bel.size
  have hch2 := ChO.chan (h.l.u.2.kept hb1) hg2
  have hm2 : Rl w2 w.heap.size gm (size : Int) ru rp mu mp := rl_cho (h.m.kept hb1) hch2
  have hou2 := (h.ou.below hb1).cho hch2
  have hov2 := (h.ov.below hb1).cho hch2
  have hom2 := (h.om.below hb1).cho hch2
  have hop2 := (h.op.below hb1).cho hch2
  obtain ⟨n1, n2, n3, n4, n5⟩ := la_not hl2 hm2.blk hm2.u
  have hl3 := hl2.chg hc3 n1 n2 n3 n4 n5
  have hS3 : ∀ (u : Value) (x : List UInt8) (base : Nat), w2.ownsRow base 5 1 u x.length (x.map bv) → ∀ b, u.ownBlock = some b → ¬ (b = gm ∨ ru.ownBlock = some b) := fun u x base ho b hb e => by
    rcases e with e | e
    · exact own_blk_ne ho hm2.blk (by decide) b hb e
    · exact own_not_types ho hm2.u (by decide) b hb e
  have kp3 : ∀ (base : Nat) (qs : List Value) (zs : List (List UInt8)), Owl w2 base qs zs → Owl w3 base qs zs := fun base qs zs ho => ho.chg hc3 (fun v hv b hb => by obtain ⟨x, hox⟩ := ho.mem hv; exact hS3 v x _ hox b hb)
  have hrlt : ∀ b, ru.ownBlock = some b → b < wr.heap.size := fun b hb => (own_lt h.m.u hb).2
  have hplt : ∀ b, rp.ownBlock = some b → b < wr.heap.size := fun b hb => (own_lt h.m.p hb).2
  have hp3 : w3.ownsRow w.heap.size 42 1 rp mp.length mp := hc3.row hm2.p (fun b hb e => by
    rcases e with e | e
    · exact own_blk_ne hm2.p hm2.blk (by decide) b hb e
    · exact hm2.dj b e hb)
  -- across the looks at the copies
  obtain ⟨t1, t2, t3, t4, t5⟩ := h.l.lt
  have hgml := h.m.blk.lt
  have hl4 := hl3.chg hc4 (by omega) (by omega) (by omega) (by omega) (by omega)
  have kp4 : ∀ (qs : List Value) (zs : List (List UInt8)), Owl wr w.heap.size qs zs → Owl w2 w.heap.size qs zs → Owl w4 w.heap.size qs zs := fun qs zs h0 ho => (kp3 _ _ _ ho).chg hc4 (fun v hv b hb => by have := (h0.lt hv hb).2; omega)
  have ho4 : Owl w4 w1.heap.size news (ps.take k) := (kp3 _ _ _ ho2.owl).chg hc4 (fun v hv b hb => by have := (ho2.owl.lt hv hb).1; omega)
  have hmo4 : Owl w4 w2.heap.size mnews (ps.take k) := hmo3.owl.chg hc4 (fun v hv b hb => by have := (hmo3.owl.lt hv hb).1; omega)
  have hr4 : ∀ b, mr3.ownBlock = some b → b < wr.heap.size ∨ w2.heap.size ≤ b := fun b hb => by
    rcases hmb3 with e3 | ⟨b', e3, hle⟩
    · rw [e3] at hb; exact .inl (hrlt b hb)
    · rw [e3] at hb; injection hb with hb; omega
  have hlk : (ps.take k).length = k := by rw [List.length_take]; omega
  have hdj : ∀ b, mr3.ownBlock = some b → rp.ownBlock ≠ some b := fun b hb hb' => by
    rcases hmb3 with e3 | ⟨b', e3, hle⟩
    · rw [e3] at hb; exact hm2.dj b hb hb'
    · rw [e3] at hb; injection hb with hb; have := hplt b hb'; omega
  have hm4 : Rl w4 w.heap.size gm (size : Int) mr3 rp (mu ++ mnews) mp := ⟨hc4.blk hm3.blk (by omega), hc4.row hm3.own (fun b hb e => by have := hr4 b hb; omega), hc4.row hp3 (fun b hb e => by have := hplt b hb; omega), hdj⟩
  refine ⟨us ++ news, vs, mu ++ mnews, mp, mr3, rp, hl4, hm4, (kp4 _ _ h.ou hou2).append (ho4.weaken (by omega)), kp4 _ _ h.ov hov2, (kp4 _ _ h.om hom2).append (hmo4.weaken (by omega)), kp4 _ _ h.op hop2, ⟨by rw [List.length_append, hlk]; have := h.room; omega, h.room.2⟩, ?_, h.ids⟩
  have b2 : Below w.heap.size w w2 := (h.bel.trans (hb1.mono hws)).grown hg2 (by omega) (fun q hq => by injection hq with hq; have := h.ids; unfold LaB at this; omega)
  have b3 := b2.trans (hc3.below (B := w.heap.size) (by omega) (fun b hb => by rcases hb with rfl | hb; exact h.ids.2; exact (own_lt h.m.u hb).1))
  exact b3.trans (hc4.below (by omega) (fun b hb => by omega))
/-- Behind the two calls of Put on this lane and the looks at the copies. -/
theorem ln_putP {w wr w1 w2 w3 w4 : World} {gl gu cu gp cp gm size k : Nat} {xs ys ps : List (List UInt8)} {us vs mu mp news : List Value} {ru rp : Value} (h : LnR w gl gu cu gp cp gm size xs ys us vs mu mp ru rp wr) (hk : min ps.length (size - ys.length) = k) (hb1 : Below wr.heap.size wr w1)
    (hl2 : La w2 gl gu cu gp cp size us (vs ++ news)) (ho2 : Own w2 w1.heap.size news (ps.take k)) (hg2 : w1.grownBy w2 (some cp))
    (hr3 : RPutP w2 w.heap.size gm size ru rp.ownBlock mp ps k w3) (hc4 : Chg w3 w4 (fun b => wr.heap.size ≤ b ∧ b < w1.heap.size)) : LnSt w gl gu cu gp cp gm size xs (ys ++ ps.take k) w4 := by
  obtain ⟨mr3, mnews, hm3, hmo3, hc3, hmb3⟩ := hr3
  have hs1 := hb1.size
  have hs2 := hg2.size
  have hs3 := hc3.2.2.2.1
  have hws := h.bel.size
  have hch2 := ChO.chan (h.l.p.2.kept hb1) hg2
  have hm2 : Rl w2 w.heap.size gm (size : Int) ru rp mu mp := rl_cho (h.m.kept hb1) hch2
  have hou2 := (h.ou.below hb1).cho hch2
  have hov2 := (h.ov.below hb1).cho hch2
  have hom2 := (h.om.below hb1).cho hch2
  have hop2 := (h.op.below hb1).cho hch2
  obtain ⟨n1, n2, n3, n4, n5⟩ := la_not hl2 hm2.blk hm2.p
  have hl3 := hl2.chg hc3 n1 n2 n3 n4 n5
  have hS3 : ∀ (u : Value) (x : List UInt8) (base : Nat), w2.ownsRow base 5 1 u x.length (x.map bv) → ∀ b, u.ownBlock = some b → ¬ (b = gm ∨ rp.ownBlock = some b) := fun u x base ho b hb e => by
    rcases e with e | e
    · exact own_blk_ne ho hm2.blk (by decide) b hb e
    · exact own_not_types ho hm2.p (by decide) b hb e
  have kp3 : ∀ (base : Nat) (qs : List Value) (zs : List (List UInt8)), Owl w2 base qs zs → Owl w3 base qs zs := fun base qs zs ho => ho.chg hc3 (fun v hv b hb => by obtain ⟨x, hox⟩ := ho.mem hv; exact hS3 v x _ hox b hb)
  have hrlt : ∀ b, rp.ownBlock = some b → b < wr.heap.size := fun b hb => (own_lt h.m.p hb).2
  have hplt : ∀ b, ru.ownBlock = some b → b < wr.heap.size := fun b hb => (own_lt h.m.u hb).2
  have hp3 : w3.ownsRow w.heap.size 42 1 ru mu.length mu := hc3.row hm2.u (fun b hb e => by
    rcases e with e | e
    · exact own_blk_ne hm2.u hm2.blk (by decide) b hb e
    · exact hm2.dj b hb e)
  -- across the looks at the copies
  obtain ⟨t1, t2, t3, t4, t5⟩ := h.l.lt
  have hgml := h.m.blk.lt
  have hl4 := hl3.chg hc4 (by omega) (by omega) (by omega) (by omega) (by omega)
  have kp4 : ∀ (qs : List Value) (zs : List (List UInt8)), Owl wr w.heap.size qs zs → Owl w2 w.heap.size qs zs → Owl w4 w.heap.size qs zs := fun qs zs h0 ho => (kp3 _ _ _ ho).chg hc4 (fun v hv b hb => by have := (h0.lt hv hb).2; omega)
  have ho4 : Owl w4 w1.heap.size news (ps.take k) := (kp3 _ _ _ ho2.owl).chg hc4 (fun v hv b hb => by have := (ho2.owl.lt hv hb).1; omega)
  have hmo4 : Owl w4 w2.heap.size mnews (ps.take k) := hmo3.owl.chg hc4 (fun v hv b hb => by have := (hmo3.owl.lt hv hb).1; omega)
  have hr4 : ∀ b, mr3.ownBlock = some b → b < wr.heap.size ∨ w2.heap.size ≤ b := fun b hb => by
    rcases hmb3 with e3 | ⟨b', e3, hle⟩
    · rw [e3] at hb; exact .inl (hrlt b hb)
    · rw [e3] at hb; injection hb with hb; omega
  have hlk : (ps.take k).length = k := by rw [List.length_take]; omega
  have hdj : ∀ b, mr3.ownBlock = some b → ru.ownBlock ≠ some b := fun b hb hb' => by
    rcases hmb3 with e3 | ⟨b', e3, hle⟩
    · rw [e3] at hb; exact hm2.dj b hb' hb
    · rw [e3] at hb; injection hb with hb; have := hplt b hb'; omega
  have hm4 : Rl w4 w.heap.size gm (size : Int) ru mr3 mu (mp ++ mnews) := ⟨hc4.blk hm3.blk (by omega), hc4.row hp3 (fun b hb e => by have := hplt b hb; omega), hc4.row hm3.own (fun b hb e => by have := hr4 b hb; omega), fun b hb hb' => hdj b hb' hb⟩
  refine ⟨us, vs ++ news, mu, mp ++ mnews, ru, mr3, hl4, hm4, kp4 _ _ h.ou hou2, (kp4 _ _ h.ov hov2).append (ho4.weaken (by omega)), kp4 _ _ h.om hom2, (kp4 _ _ h.op hop2).append (hmo4.weaken (by omega)), ⟨h.room.1, by rw [List.length_append, hlk]; have := h.room; omega⟩, ?_, h.ids⟩
  have b2 : Below w.heap.size w w2 := (h.bel.trans (hb1.mono hws)).grown hg2 (by omega) (fun q hq => by injection hq with hq; have := h.ids; unfold LaB at this; omega)
  have b3 := b2.trans (hc3.below (B := w.heap.size) (by omega) (fun b hb => by rcases hb with rfl | hb; exact h.ids.2; exact (own_lt h.m.p hb).1))
  exact b3.trans (hc4.below (by omega) (fun b hb => by omega))
/-- Behind Get or Take on both sides. -/
theorem ln_step {w wa w2 w3 : World} {gl gu cu gp cp gm size : Nat} {xs ys xs2 ys2 : List (List UInt8)} {us vs mu mp us2 vs2 mu2 mp2 : List Value} {ru rp ru2 rp2 : Value} (h : LnR w gl gu cu gp cp gm size xs ys us vs mu mp ru rp wa)
    (hl2 : La w2 gl gu cu gp cp size us2 vs2) (hch : ChO wa w2) (hb2 : Below w.heap.size w w2) (hm3 : Rl w3 w.heap.size gm (size : Int) ru2 rp2 mu2 mp2) (hg3 : w2.grownBy w3 (some gm))
    (h1 : Owl wa w.heap.size us2 xs2) (h2 : Owl wa w.heap.size vs2 ys2) (h3 : Owl wa w.heap.size mu2 xs2) (h4 : Owl wa w.heap.size mp2 ys2) (hr : xs2.length ≤ xs.length ∧ ys2.length ≤ ys.length) (q : Nat) : LnSt w gl gu cu gp cp gm size xs2 ys2 (w3.drewN q) := by
  have hm2 : Blk w2 gm 64 _ := h.m.blk.cho hch
  have hc3 : Chg w2 w3 (fun b => b = gm) := Chg.of hg3 (fun b hb => by injection hb with hb; exact hb.symm)
  have kp : ∀ (qs : List Value) (zs : List (List UInt8)), Owl wa w.heap.size qs zs → Owl (w3.drewN q) w.heap.size qs zs := fun qs zs ho => ((ho.cho hch).chg hc3 (fun v hv b hb e => by obtain ⟨x, hox⟩ := (ho.cho hch).mem hv; exact own_blk_ne hox hm2 (by decide) b hb e)).below (below_dn w3 q)
  refine ⟨us2, vs2, mu2, mp2, ru2, rp2, ?_, hm3.kept (below_dn w3 q), kp _ _ h1, kp _ _ h2, kp _ _ h3, kp _ _ h4, ⟨Nat.le_trans hr.1 h.room.1, Nat.le_trans hr.2 h.room.2⟩, ?_, h.ids⟩
  · exact (hl2.chg hc3 (blk_ne_blk hl2.l hm2 (by decide)) (blk_ne_blk hl2.u.1 hm2 (by decide)) (Ne.symm (blk_not_chan hm2 hl2.u.2)) (blk_ne_blk hl2.p.1 hm2 (by decide)) (Ne.symm (blk_not_chan hm2 hl2.p.2))).kept (below_dn w3 q)
  · exact below_drewN (hb2.grown hg3 hb2.size (fun q hq => by injection hq with hq; have := h.ids; omega)) q
end Go.Proofs.Ytkgkbmiacomhdaa
