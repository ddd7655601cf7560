/- The walk of QueuePlays. -/
import Derived.Test.YtkgkbmiacomhdaaCopies
import Derived.Test.YtkgkbmiacomhdaaQuLong
import Derived.Test.YtkgkbmiacomhdaaQuAlive
namespace Go.Proofs.Ytkgkbmiacomhdaa
set_option linter.unusedVariables false
set_option linter.unusedSimpArgs false
open Go.RowKit Go.Conc

/-- The state of a round: xs: what both hold. -/
structure PlR (w : World) (gq gc gm size : Nat) (xs : List (List UInt8)) (qv mv : List Value) (mr : Value) (wx : World) : Prop where
  q : Qc wx gq gc size qv
  m : Rq wx w.heap.size gm (size : Int) mr mv
  own : Own wx w.heap.size (qv ++ mv) (xs ++ xs)
  lq : qv.length = xs.length
  lm : mv.length = xs.length
  room : xs.length ≤ size
  bel : Below w.heap.size w wx
  ids : w.heap.size ≤ gq ∧ w.heap.size ≤ gc ∧ w.heap.size ≤ gm
def PlSt (w : World) (gq gc gm size : Nat) (xs : List (List UInt8)) (wx : World) : Prop := ∃ qv mv mr, PlR w gq gc gm size xs qv mv mr wx
theorem Own.sub {w : World} {base : Nat} {vs us : List Value} {xs ys : List (List UInt8)} (h : Own w base (vs ++ us) (xs ++ ys)) (hl : vs.length = xs.length) : Own w base vs xs ∧ Own w base us ys := by
  have hlen := h.len
  rw [List.length_append, List.length_append] at hlen
  refine ⟨⟨hl, fun j v x hv hx => h.own j v x ?_ ?_, fun i j u v hij hu hv => h.dis i j u v hij ?_ ?_⟩, ⟨by omega, fun j v x hv hx => h.own (vs.length + j) v x ?_ ?_, fun i j u v hij hu hv => h.dis (vs.length + i) (vs.length + j) u v (by omega) ?_ ?_⟩⟩
  · rw [List.getElem?_append_left (List.getElem?_eq_some_iff.1 hv).1]; exact hv
  · rw [List.getElem?_append_left (List.getElem?_eq_some_iff.1 hx).1]; exact hx
  · rw [List.getElem?_append_left (List.getElem?_eq_some_iff.1 hu).1]; exact hu
  · rw [List.getElem?_append_left (List.getElem?_eq_some_iff.1 hv).1]; exact hv
  · rw [List.getElem?_append_right (by omega)]; simpa using hv
  · rw [List.getElem?_append_right (by omega), hl]; simpa using hx
  · rw [List.getElem?_append_right (by omega)]; simpa using hu
  · rw [List.getElem?_append_right (by omega)]; simpa using hv
theorem Own.cross {w : World} {base : Nat} {vs us : List Value} {xs : List (List UInt8)} (h : Own w base (vs ++ us) xs) : ∀ u ∈ vs, ∀ v ∈ us, ∀ b, u.ownBlock = some b → v.ownBlock ≠ some b := by
  intro u hu v hv b hb
  obtain ⟨i, hi⟩ := List.getElem?_of_mem hu
  obtain ⟨j, hj⟩ := List.getElem?_of_mem hv
  have hil := (List.getElem?_eq_some_iff.1 hi).1
  exact h.dis i (vs.length + j) u v (by omega) (by rw [List.getElem?_append_left hil]; exact hi) (by rw [List.getElem?_append_right (by omega)]; simpa using hj) b hb
theorem own_not_chan' {w : World} {base gc cap : Nat} {v : Value} {e : TypeId} {n : Nat} {xs vs : List Value} (h : w.ownsRow base e 1 v n xs) (hc : Ch w gc cap vs) : ∀ b, v.ownBlock = some b → b ≠ gc := fun b hb e' => own_not_chan h hc b hb (by rw [e'])
theorem blk_ne_blk {w : World} {g g' : Nat} {t t' : TypeId} {cs cs' : List Value} (h : Blk w g t cs) (h' : Blk w g' t' cs') (hne : t ≠ t') : g ≠ g' := by
  rintro rfl
  unfold Blk at h h'
  rw [h] at h'
  injection h' with h'
  injection h' with _ ht
  exact hne ht
theorem blk_not_chan {w : World} {g gc cap : Nat} {t : TypeId} {cs vs : List Value} (h : Blk w g t cs) (hc : Ch w gc cap vs) : g ≠ gc := by
  obtain ⟨s, r, hc⟩ := hc
  rintro rfl
  unfold Blk at h
  rw [h] at hc
  cases hc
theorem Own.mem {w : World} {base : Nat} {vs : List Value} {xs : List (List UInt8)} (h : Own w base vs xs) {v : Value} (hv : v ∈ vs) : ∃ x : List UInt8, w.ownsRow base 5 1 v x.length (x.map bv) := by
  obtain ⟨j, hj⟩ := List.getElem?_of_mem hv
  obtain ⟨x, _, ho⟩ := h.at_ hj
  exact ⟨x, ho⟩

/-- Behind the two calls of Put and what is looked at behind them. -/
theorem pl_put {w wr w1 w2 w3 w4 : World} {gq gc gm size k : Nat} {xs ps : List (List UInt8)} {qv mv news : List Value} {mr : Value} (h : PlR w gq gc gm size xs qv mv mr wr) (hk : min ps.length (size - xs.length) = k) (hb1 : Below wr.heap.size wr w1)
    (hq2 : Qc w2 gq gc size (qv ++ news)) (ho2 : Own w2 w1.heap.size news (ps.take k)) (hg2 : w1.grownBy w2 (some gc))
    (hr3 : RPut w2 w.heap.size gm size mr.ownBlock mv ps k w3) (hc4 : Chg w3 w4 (fun b => wr.heap.size ≤ b ∧ b < w1.heap.size)) : PlSt w gq gc gm size (xs ++ ps.take k) w4 := by
  obtain ⟨mr3, mnews, hm3, hmo3, hc3, hmb3⟩ := hr3
  have hs1 := hb1.size
  have hs2 := hg2.size
  have hs3 := hc3.2.2.2.1
  have hch2 := ChO.chan (h.q.2.kept hb1) hg2
  have hm2 : Rq w2 w.heap.size gm (size : Int) mr mv := ⟨(h.m.blk.kept hb1).cho hch2, own_cho (own_below h.m.own hb1) hch2⟩
  have hown2 : Own w2 w.heap.size (qv ++ mv) (xs ++ xs) := (h.own.below hb1).cho hch2
  have hws := h.bel.size
  have hqgm : gq ≠ gm := blk_ne_blk hq2.1 hm2.blk (by decide)
  have hcgm : gm ≠ gc := blk_not_chan hm2.blk hq2.2
  have hrq : ∀ b, mr.ownBlock = some b → b ≠ gq := own_blk_ne hm2.own hq2.1 (by decide)
  have hrc : ∀ b, mr.ownBlock = some b → b ≠ gc := own_not_chan' hm2.own hq2.2
  have hrlt : ∀ b, mr.ownBlock = some b → b < wr.heap.size := fun b hb => (own_lt h.m.own hb).2
  have hql := h.q.1.lt
  have hcl := h.q.2.lt
  have hml := h.m.blk.lt
  -- across the document's Put
  have hq3 : Qc w3 gq gc size (qv ++ news) := ⟨hc3.blk hq2.1 (fun e => by rcases e with e | e; exact hqgm e; exact hrq gq e rfl), hc3.ch hq2.2 (fun e => by rcases e with e | e; exact hcgm e.symm; exact hrc gc e rfl)⟩
  have hS3 : ∀ (u : Value) (x : List UInt8) (base : Nat), w2.ownsRow base 5 1 u x.length (x.map bv) → ∀ b, u.ownBlock = some b → ¬ (b = gm ∨ mr.ownBlock = some b) := fun u x base ho b hb e => by
    rcases e with e | e
    · exact own_blk_ne ho hm2.blk (by decide) b hb e
    · exact own_not_types ho hm2.own (by decide) b hb e
  have hown3 : Own w3 w.heap.size (qv ++ mv) (xs ++ xs) := hc3.own hown2 (fun v hv b hb => by obtain ⟨x, ho⟩ := hown2.mem hv; exact hS3 v x _ ho b hb)
  have ho3 : Own w3 w1.heap.size news (ps.take k) := hc3.own ho2 (fun v hv b hb => by obtain ⟨x, ho⟩ := ho2.mem hv; exact hS3 v x _ ho b hb)
  -- across the looks at the copies
  have hlt3 : ∀ v ∈ qv ++ mv, ∀ b, v.ownBlock = some b → b < wr.heap.size := fun v hv b hb => (h.own.lt hv hb).2
  have hq4 : Qc w4 gq gc size (qv ++ news) := ⟨hc4.blk hq3.1 (by omega), hc4.ch hq3.2 (by omega)⟩
  have hown4 : Own w4 w.heap.size (qv ++ mv) (xs ++ xs) := hc4.own hown3 (fun v hv b hb => by have := hlt3 v hv b hb; omega)
  have ho4 : Own w4 w1.heap.size news (ps.take k) := hc4.own ho3 (fun v hv b hb => by have := (ho3.lt hv hb).1; omega)
  have hmo4 : Own w4 w2.heap.size mnews (ps.take k) := hc4.own hmo3 (fun v hv b hb => by have := (hmo3.lt hv hb).1; omega)
  have hm4 : Rq w4 w.heap.size gm (size : Int) mr3 (mv ++ mnews) := ⟨hc4.blk hm3.blk (by omega), hc4.row hm3.own (fun b hb e => by
    rcases hmb3 with e3 | ⟨b', e3, hle⟩
    · rw [e3] at hb; have := hrlt b hb; omega
    · rw [e3] at hb; injection hb with hb; omega)⟩
  obtain ⟨hqx, hmx⟩ := hown4.sub h.lq
  have hcr := hown4.cross
  have hlk : (ps.take k).length = k := by rw [List.length_take]; omega
  refine ⟨qv ++ news, mv ++ mnews, mr3, hq4, hm4, ?_, by rw [List.length_append, List.length_append, h.lq, ho4.len], by rw [List.length_append, List.length_append, h.lm, hmo4.len], by rw [List.length_append, hlk]; have := h.room; omega, ?_, h.ids⟩
  · have hA : Own w4 w.heap.size (qv ++ news) (xs ++ ps.take k) := hqx.append (ho4.weaken (by omega)) (fun u hu v hv b hb hb' => by
      have := hlt3 u (List.mem_append_left _ hu) b hb; have := (ho4.lt hv hb').1; omega)
    have hB : Own w4 w.heap.size (mv ++ mnews) (xs ++ ps.take k) := hmx.append (hmo4.weaken (by omega)) (fun u hu v hv b hb hb' => by
      have := hlt3 u (List.mem_append_right _ hu) b hb; have := (hmo4.lt hv hb').1; omega)
    refine hA.append hB (fun u hu v hv b hb hb' => ?_)
    rcases List.mem_append.1 hu with hu | hu <;> rcases List.mem_append.1 hv with hv | hv
    · exact hcr u hu v hv b hb hb'
    · have := hlt3 u (List.mem_append_left _ hu) b hb; have := (hmo4.lt hv hb').1; omega
    · have := (ho4.lt hu hb).1; have := hlt3 v (List.mem_append_right _ hv) b hb'; omega
    · have := (ho3.lt hu hb).1
      have hlt2 := (ho2.lt hu hb).2
      have := (hmo4.lt hv hb').1
      omega
  · have b2 : Below w.heap.size w w2 := (h.bel.trans (hb1.mono hws)).grown hg2 (by omega) (fun q hq => by injection hq with hq; have := h.ids; omega)
    have b3 := b2.trans (hc3.below (B := w.heap.size) (by omega) (fun b hb => by rcases hb with rfl | hb; exact h.ids.2.2; exact (own_lt h.m.own hb).1))
    exact b3.trans (hc4.below (by omega) (fun b hb => by omega))

def PlOut (w : World) (gq gc gm size : Nat) (wx : World) : Prop := ∃ xs, (∀ x ∈ xs, x.length ≤ 1048576) ∧ PlSt w gq gc gm size xs wx
theorem PlR.kept {w wr wa : World} {gq gc gm size : Nat} {xs : List (List UInt8)} {qv mv : List Value} {mr : Value} (h : PlR w gq gc gm size xs qv mv mr wr) (hb : Below wr.heap.size wr wa) : PlR w gq gc gm size xs qv mv mr wa :=
  ⟨h.q.kept hb, ⟨h.m.blk.kept hb, own_below h.m.own hb⟩, h.own.below hb, h.lq, h.lm, h.room, below_call h.bel hb, h.ids⟩
theorem pl_w2 {w wa w1 w2 : World} {gq gc gm size : Nat} {xs : List (List UInt8)} {qv mv : List Value} {mr : Value} (h : PlR w gq gc gm size xs qv mv mr wa) (hb1 : Below wa.heap.size wa w1) (hg2 : w1.grownBy w2 (some gc)) :
    Rq w2 w.heap.size gm (size : Int) mr mv ∧ Below w.heap.size w w2 ∧ ChO w1 w2 ∧ w.heap.size ≤ w2.heap.size := by
  have hch2 := ChO.chan (h.q.2.kept hb1) hg2
  have b2 : Below w.heap.size w w2 := (below_call h.bel hb1).grown hg2 (by have := h.bel.size; have := hb1.size; omega) (fun q hq => by injection hq with hq; have := h.ids; omega)
  exact ⟨⟨(h.m.blk.kept hb1).cho hch2, own_cho (own_below h.m.own hb1) hch2⟩, b2, hch2, b2.size⟩
theorem pl_w3 {w wa w1 w2 w3 : World} {gq gc gm size k n cc : Nat} {xs ps : List (List UInt8)} {qv mv cs : List Value} {mr : Value} {C : Option Addr} (h : PlR w gq gc gm size xs qv mv mr wa) (hb1 : Below wa.heap.size wa w1) (hg2 : w1.grownBy w2 (some gc))
    (hr3 : RPut w2 w.heap.size gm size mr.ownBlock mv ps k w3) (hown : w1.ownsRow wa.heap.size 42 1 (.slice C n cc) n cs) (hB : CpB w1 cs ps 0) :
    RC w3 C cs ∧ CpB w3 cs ps 0 ∧ Below w.heap.size w w3 ∧ ∀ go t c0, t ≠ 35 → t ≠ 42 → Blk w1 go t c0 → Blk w3 go t c0 := by
  obtain ⟨hm2, b2, hch2, hs2⟩ := pl_w2 h hb1 hg2
  obtain ⟨mr3, mnews, hm3, hmo3, hc3, hmb3⟩ := hr3
  have hrlt : ∀ b, mr.ownBlock = some b → b < wa.heap.size := fun b hb => (own_lt h.m.own hb).2
  have hgml := h.m.blk.lt
  have hown3 := hc3.row (own_cho hown hch2) (fun b hb e => by
    have := (own_lt hown hb).1
    rcases e with e | e
    · omega
    · have := hrlt b e; omega)
  refine ⟨RC.of_own hown3, fun j g a b x hj hv hx => ?_, b2.trans (hc3.below (B := w.heap.size) hs2 (fun b hb => by rcases hb with rfl | hb; exact h.ids.2.2; exact (own_lt h.m.own hb).1)), fun go t c0 ht1 ht2 hb => ?_⟩
  · have hb2 := (hB j g a b x hj hv hx).cho hch2
    exact hc3.blk hb2 (fun e => by
      rcases e with e | e
      · exact blk_ne_blk hb2 hm2.blk (by decide) e
      · exact own_blk_ne hm2.own hb2 (by decide) g e rfl)
  · have hb2 := hb.cho hch2
    exact hc3.blk hb2 (fun e => by
      rcases e with e | e
      · exact blk_ne_blk hb2 hm2.blk ht1 e
      · exact own_blk_ne hm2.own hb2 (Ne.symm ht2) go e rfl)

theorem pl_get {w wa w2 w3 w4 : World} {gq gc gm size : Nat} {x : List UInt8} {xs : List (List UInt8)} {v u : Value} {qv mv : List Value} {mr mr3 : Value} (h : PlR w gq gc gm size (x :: xs) (v :: qv) (u :: mv) mr wa)
    (hq2 : Qc w2 gq gc size qv) (hg2 : wa.grownBy w2 (some gc)) (hm3 : Rq w3 w.heap.size gm (size : Int) mr3 mv) (hg3 : w2.grownBy w3 (some gm)) (hn3 : ∀ b, mr3.ownBlock = some b → w2.heap.size ≤ b) (hg4 : w3.grownBy w4 v.ownBlock) : PlSt w gq gc gm size xs w4 := by
  have hch2 := ChO.chan h.q.2 hg2
  have hown2 := h.own.cho hch2
  have hm2 : Blk w2 gm 35 _ := h.m.blk.cho hch2
  have hs2 := hg2.size
  have hs3 := hg3.size
  have hws := h.bel.size
  have hq3 : Qc w3 gq gc size qv := ⟨hq2.1.grown hg3 (by simp; exact blk_ne_blk hq2.1 hm2 (by decide)), hq2.2.grown hg3 (by simp; exact Ne.symm (blk_not_chan hm2 hq2.2))⟩
  have hown3 : Own w3 w.heap.size (v :: qv ++ u :: mv) (x :: xs ++ x :: xs) := hown2.grown hg3 (fun y hy b hb e => by
    obtain ⟨z, ho⟩ := hown2.mem hy
    injection e with e
    exact own_blk_ne ho hm2 (by decide) b hb e.symm)
  obtain ⟨hQ, hM⟩ := hown3.sub h.lq
  have hcr := hown3.cross
  have ev : [v] ++ qv = v :: qv := rfl
  have eu : [u] ++ mv = u :: mv := rfl
  have ex : [x] ++ xs = x :: xs := rfl
  have hQ' : Own w3 w.heap.size ([v] ++ qv) ([x] ++ xs) := hQ
  have hM' : Own w3 w.heap.size ([u] ++ mv) ([x] ++ xs) := hM
  obtain ⟨hv1, hq1⟩ := hQ'.sub rfl
  obtain ⟨hu1, hm1⟩ := hM'.sub rfl
  have hov : w3.ownsRow w.heap.size 5 1 v x.length (x.map bv) := hv1.own 0 v x rfl rfl
  have hall3 : Own w3 w.heap.size (qv ++ mv) (xs ++ xs) := hq1.append hm1 (fun a ha c hc b hb => hcr a (List.mem_cons_of_mem _ ha) c (List.mem_cons_of_mem _ hc) b hb)
  have hall4 : Own w4 w.heap.size (qv ++ mv) (xs ++ xs) := hall3.grown hg4 (fun y hy b hb e => by
    rcases List.mem_append.1 hy with hy | hy
    · exact hQ'.cross v (by simp) y hy b e hb
    · exact hcr v (by simp) y (List.mem_cons_of_mem _ hy) b e hb)
  refine ⟨qv, mv, mr3, ?_, ?_, hall4, by have := h.lq; simpa using this, by have := h.lm; simpa using this, by have := h.room; simp at this; omega, ?_, h.ids⟩
  · exact ⟨hq3.1.grown hg4 (fun e => own_blk_ne hov hq3.1 (by decide) gq e.symm rfl), hq3.2.grown hg4 (fun e => own_not_chan' hov hq3.2 gc e.symm rfl)⟩
  · refine ⟨hm3.blk.grown hg4 (fun e => own_blk_ne hov hm3.blk (by decide) gm e.symm rfl), hm3.own.kept hg4 ?_⟩
    cases hb : mr3.ownBlock with
    | none => exact .inl rfl
    | some b => exact .inr (fun e => own_not_types hm3.own hov (by decide) b hb e.symm)
  · have b2 : Below w.heap.size w w2 := h.bel.grown hg2 hws (fun q hq => by injection hq with hq; have := h.ids; omega)
    have b3 : Below w.heap.size w w3 := b2.grown hg3 b2.size (fun q hq => by injection hq with hq; have := h.ids; omega)
    exact b3.grown hg4 b3.size (fun q hq => (own_lt hov hq).1)
theorem pl_drain {w wa w2 w3 : World} {gq gc gm size : Nat} {xs : List (List UInt8)} {qv mv : List Value} {mr : Value} (h : PlR w gq gc gm size xs qv mv mr wa)
    (hq2 : Qc w2 gq gc size []) (hg2 : wa.grownBy w2 (some gc)) (hm3 : Rq w3 w.heap.size gm (size : Int) (.slice none 0 0) []) (hg3 : w2.grownBy w3 (some gm)) (q : Nat) :
    PlSt w gq gc gm size [] (w3.drewN q) ∧ RVs w3 qv xs ∧ RVs w3 mv xs ∧ w3.ownsRow w.heap.size 42 1 mr mv.length mv := by
  have hch2 := ChO.chan h.q.2 hg2
  have hown2 := h.own.cho hch2
  have hm2 : Blk w2 gm 35 _ := h.m.blk.cho hch2
  have hmo2 := own_cho h.m.own hch2
  have hws := h.bel.size
  have hs2 := hg2.size
  have hq3 : Qc w3 gq gc size [] := ⟨hq2.1.grown hg3 (by simp; exact blk_ne_blk hq2.1 hm2 (by decide)), hq2.2.grown hg3 (by simp; exact Ne.symm (blk_not_chan hm2 hq2.2))⟩
  have hown3 : Own w3 w.heap.size (qv ++ mv) (xs ++ xs) := hown2.grown hg3 (fun y hy b hb e => by
    obtain ⟨z, ho⟩ := hown2.mem hy
    injection e with e
    exact own_blk_ne ho hm2 (by decide) b hb e.symm)
  obtain ⟨hQ, hM⟩ := hown3.sub h.lq
  have b2 : Below w.heap.size w w2 := h.bel.grown hg2 hws (fun q hq => by injection hq with hq; have := h.ids; omega)
  have b3 : Below w.heap.size w w3 := b2.grown hg3 b2.size (fun q hq => by injection hq with hq; have := h.ids; omega)
  refine ⟨⟨[], [], .slice none 0 0, hq3.kept (below_dn w3 q), ⟨hm3.blk.kept (below_dn w3 q), World.ownsRow_nil _ _ _ _⟩, Own.nil _ _, rfl, rfl, Nat.zero_le _, below_drewN b3 q, h.ids⟩, hQ.vals, hM.vals, hmo2.kept hg3 ?_⟩
  cases hb : mr.ownBlock with
  | none => exact .inl rfl
  | some b => exact .inr (fun e => by injection e with e; exact own_blk_ne hmo2 hm2 (by decide) b hb e)
theorem rows_n (n m : Nat) (ps qs : List (List UInt8)) (A B : Option Addr) (c d : Nat) (w : World) (hn : ps.length = n) (hm : qs.length = m) (hA : RP w A ps) (hB : RP w B qs) (hl : n ≤ 4000000) :
    Calls Try.prog 19 #[.slice A n c, .slice B m d] w fun e w' => e = .returned (.bool (decide (ps = qs))) ∧ ∃ n, w' = w.drewN n := by
  subst hn hm
  exact rows_any ps qs A B c d w hA hB hl

theorem put_k (gq gc cap m k : Nat) (vs : List Value) (ps : List (List UInt8)) (A : Option Addr) (c : Nat) (w : World) (h : Qc w gq gc cap vs) (hv : vs.length ≤ cap) (hcap : cap ≤ 4096) (hA : RP w A ps) (hm : ps.length = m) (hl : m ≤ 4000000) (hls : ∀ x ∈ ps, x.length ≤ 4000000) (hk : min m (cap - vs.length) = k) :
    Calls Try.prog 13 #[.pointer (some ⟨gq, 0, none⟩), .slice A m c] w fun e w' => e = .returned (.int .i64 (k : Int)) ∧ ∃ news : List Value, Qc w' gq gc cap (vs ++ news) ∧ Own w' w.heap.size news (ps.take k) ∧ w.grownBy w' (some gc) :=
  (put_n gq gc cap m vs ps A c w h hv hcap hA hm hl hls).mono fun e w' ⟨n, he, news, hn, h1, h2, h3, h4⟩ => by
    have e1 : news.length = k := by rw [h1, hm]; exact hk
    rw [e1] at hn h3
    subst he hn
    exact ⟨rfl, news, h2, h3, h4⟩
theorem rput_k (w0 : World) (base gm size m k : Nat) (mr : Value) (mv : List Value) (ps : List (List UInt8)) (A : Option Addr) (c : Nat) (w : World) (h : Rq w base gm (size : Int) mr mv) (hbs : base ≤ w.heap.size) (hml : mv.length ≤ size) (hsz : size ≤ 4096)
    (hA : RP w0 A ps) (hw0 : Below w0.heap.size w0 w) (hgm : w0.heap.size ≤ gm) (hb0 : w0.heap.size ≤ base) (hm : ps.length = m) (hl : m ≤ 4000000) (hls : ∀ x ∈ ps, x.length ≤ 4000000) (hk : min m (size - mv.length) = k) :
    Calls Try.prog 14 #[.pointer (some ⟨gm, 0, none⟩), .slice A m c] w fun e w' => e = .returned (.int .i64 (k : Int)) ∧ RPut w base gm size mr.ownBlock mv ps k w' := by
  subst hm hk
  exact rput_any w0 base gm size mr mv ps A c w h hbs hml hsz hA hw0 hgm hb0 hl hls
theorem kept_n (w0 : World) (lo hi_ m : Nat) (ps : List (List UInt8)) (cs : List Value) (A C : Option Addr) (c d : Nat) (w : World) (hA : RP w0 A ps) (hw : Below w0.heap.size w0 w) (hlo : w0.heap.size ≤ lo) (hC : RC w C cs) (hS : CpS lo hi_ cs ps) (hB : CpB w cs ps 0) (hm : ps.length = m) (hl : m ≤ 4000000) (hls : ∀ x ∈ ps, x.length ≤ 4000000) :
    Calls Try.prog 15 #[.slice C m d, .slice A m c] w fun e w' => e = .returned (.bool true) ∧ Chg w w' (fun b => lo ≤ b ∧ b < hi_) := by
  subst hm
  exact kept_all w0 lo hi_ ps cs A C c d w hA hw hlo hC hS hB hl hls

set_option maxRecDepth 100000 in
set_option maxHeartbeats 6400000 in
theorem QueuePlays_walk (n : Int) (ops : List QOp) (A : Option Addr) (c : Nat) (w : World) (hA : OpsAt w A ops) (hL : OpsLe ops) (hl : ops.length ≤ 1048576) :
    Calls Try.prog 3 #[.int .i64 n, .slice A ops.length c] w fun e w' => e = .returned (.bool true) ∧ Below w.heap.size w w' := by
  have HL := Lib.hid hL
  have HA := Lib.hid hA
  clear hL hA
  have hee := er_eql 4 4
  go_enter Try.func3, Try.ntmps3
  go_wp2_with fail
  (with_reducible refine (alive_any w).mono ?_)
  rintro e w1 ⟨rfl, hb1⟩
  by_cases hg : n < 0 ∨ 4096 < n
  · have HG := Lib.hid hg
    clear hg
    go_wp2_with fail
    (with_reducible refine (new_bad n w1 HG.out).mono ?_)
    rintro e w2 ⟨rfl, rfl⟩
    go_wp2_with fail
    (with_reducible refine (good_no n w2 HG.out).mono ?_)
    rintro e w3 ⟨rfl, rfl⟩
    go_wp2_with fail
    go_ret
    exact ⟨rfl, hb1⟩
  obtain ⟨size, rfl⟩ : ∃ size : Nat, n = (size : Int) := ⟨n.toNat, by omega⟩
  have hs4 : size ≤ 4096 := by omega
  clear hg
  go_wp2_with fail
  (with_reducible refine (new_good size w1 hs4).mono ?_)
  rintro e w2 ⟨rfl, hq2, hb2⟩
  have hbw2 := below_call hb1 hb2
  have hs1 := hb1.size
  have hq2l := hq2.1.lt
  generalize hgqe : w1.heap.size + 1 = gq at *
  generalize hgce : w1.heap.size = gc at *
  go_wp2_with fail
  (with_reducible refine (good_yes (size : Int) w2 (by omega) (by omega)).mono ?_)
  rintro e w3 ⟨rfl, rfl⟩
  go_wp2_with fail
  (with_reducible refine (long_any ops A c w3 (HA.out.below hbw2) HL.out hl).mono ?_)
  rintro e w4 ⟨⟨lb, rfl⟩, hb4⟩
  have hbw4 := below_call hbw2 hb4
  cases lb with
  | true =>
    go_wp2_with fail
    go_ret
    exact ⟨rfl, hbw4⟩
  | false =>
    have hq4 := hq2.kept hb4
    have hws := hbw4.size
    have hst0 : Hid (PlSt w gq gc w4.heap.size size [] (w4.alloc (.cells #[.slice none 0 0, .int .i64 (size : Int)] 35))) :=
      ⟨[], [], .slice none 0 0, hq4.alloc _, ⟨Blk.new w4 _ _, World.ownsRow_nil _ _ _ _⟩, Own.nil _ _, rfl, rfl, Nat.zero_le _, below_al hbw4 _, by omega, by omega, by omega⟩
    clear hb1 hb2 hb4 hbw2 hq2 hq4 hq2l hgqe hgce
    go_wp2_with fail
    go_loopw [53] (fun i wr => ∃ (k : Nat) (xs : List (List UInt8)), k ≤ ops.length ∧ i = .int .i64 (k : Int) ∧ Hid (∀ x ∈ xs, x.length ≤ 1048576) ∧ Hid (PlSt w gq gc w4.heap.size size xs wr)) (fun i _ => ops.length - (intOf i).toNat)
    case atStart => exact ⟨0, [], Nat.zero_le _, rfl, fun x hx => (by cases hx), hst0⟩
    case round =>
      obtain ⟨k, xs, hk, rfl, HX, HS⟩ := hrel
      clear hst0 hbw4 hws
      generalize w4.heap.size = gm at *
      by_cases hlt : k < ops.length
      · obtain ⟨qv, mv, mr, h⟩ := HS.out
        obtain ⟨ad, rfl, B, cb, hcc, hcb, hB⟩ := (HA.out.below h.bel) k hlt
        obtain ⟨ad', e', B', cb', hcc', hcb', hB'⟩ := HA.out k hlt
        injection e' with e'
        subst e'
        obtain ⟨hr1, hr2, hwf⟩ := HL.out ops[k] (List.getElem_mem hlt)
        have hBB : B' = B := by
          have h1 := hcc 1 _ rfl
          have h2 := cell_keep h.bel (hcc' 1 _ rfl)
          rw [h1] at h2
          injection h2 with h2
          injection h2 with h2
          exact h2.symm
        subst hBB
        have HB0 := Lib.hid hB'
        have HH := Lib.hid h
        clear hcc' hcb' hB' hB h
        generalize ops[k] = o at *
        obtain ⟨kd, ps, nn⟩ := o
        simp only at hcc hcb hr1 hr2 hwf HB0
        go_upto_block 2 with (with_reducible refine wl_load rfl 37 (.tmp 55) rfl _ rfl _ _ hcc Try.underlying37 rfl (by kernel_rfl) ?_)
        have h1 : PlR w gq gc gm size xs qv mv mr (wr.alloc (.cells #[.int .i64 kd, .slice B' ps.length cb, .int .i64 nn] 37)) := HH.out.kept ((Below.refl _ wr).alloc (Nat.le_refl _) _)
        have hO : Blk (wr.alloc (.cells #[.int .i64 kd, .slice B' ps.length cb, .int .i64 nn] 37)) wr.heap.size 37 [.int .i64 kd, .slice B' ps.length cb, .int .i64 nn] := Blk.new wr _ _
        have H1 := Lib.hid h1
        clear HS HH h1 hcc
        generalize wr.alloc (.cells #[.int .i64 kd, .slice B' ps.length cb, .int .i64 nn] 37) = wa at *
        generalize wr.heap.size = go_ at *
        go_cut [] (fun wx => Hid (PlOut w gq gc gm size wx))
        case first =>
          have o0 := hO.cell 0
          have o1 := hO.cell 1
          simp only [List.getElem?_cons_zero, List.getElem?_cons_succ] at o0 o1
          by_cases hk01 : kd = 0 ∨ kd = 1
          · have hB1 := HB0.out.below H1.out.bel
            have HB1 := Lib.hid hB1
            have hls : ∀ x ∈ ps, x.length ≤ 4000000 := fun x hx => by have := total_mem hx; omega
            have HLS := Lib.hid hls
            clear hB1 hls
            rcases hk01 with rfl | rfl
            all_goals
              go_wp2_with fail
              (with_reducible refine (copies_any ps B' cb wa HB1.out (by omega) HLS.out).mono ?_)
              rintro e wc ⟨v, cs, rfl, hown, hcS, hcB, hbc⟩
              obtain ⟨C, cc, rfl, -, hrc, -⟩ := own_form hown
              have hbcd : Below wa.heap.size wa wc.drew := Below.drew hbc
              have hOc : Blk wc.drew go_ 37 _ := hO.kept hbcd
              have oc1 := hOc.cell 1
              have hq1 : Qc wc.drew gq gc size qv := H1.out.q.kept hbcd
              have hRPc : RP wc.drew C ps := (cp_vals hcS hcB).rp hrc
              have hownd : wc.drew.ownsRow wa.heap.size 42 1 (.slice C ps.length cc) ps.length cs := hown
              have hcBd : CpB wc.drew cs ps 0 := hcB
              have hroom := H1.out.room
              obtain ⟨k1, hk1⟩ : ∃ k1, min ps.length (size - xs.length) = k1 := ⟨_, rfl⟩
              have HK1 := Lib.hid hk1
              have HKq : Hid (min ps.length (size - qv.length) = k1) := by show _ = _; rw [H1.out.lq]; exact hk1
              have HKm : Hid (min ps.length (size - mv.length) = k1) := by show _ = _; rw [H1.out.lm]; exact hk1
              have HQR : Hid (qv.length ≤ size) := by show _ ≤ _; rw [H1.out.lq]; exact hroom
              have HMR : Hid (mv.length ≤ size) := by show _ ≤ _; rw [H1.out.lm]; exact hroom
              have hids := H1.out.ids
              have hwas := H1.out.bel.size
              simp only [List.getElem?_cons_zero, List.getElem?_cons_succ] at oc1
              clear hk1 hown hcB hrc o0 o1
              go_wp2_with fail
              go_region_held3 (fun w' => w'.cell? ⟨go_, 1, none⟩ = some (.slice B' ps.length cb))
                (first | with_reducible exact oc1 | with_reducible exact cW2 | with_reducible exact cW3 | with_reducible exact cW4)
                (first
                  | (go_at_call 13; (with_reducible refine (put_k gq gc size ps.length k1 qv ps C cc _ hq1 HQR.out hs4 hRPc rfl (by omega) HLS.out HKq.out).mono ?_); rintro e w2 ⟨rfl, news, hq2, ho2, hg2⟩; obtain ⟨hm2, hbw2, hch2, hsw2⟩ := pl_w2 H1.out hbcd hg2; have cW2 := cell_cho oc1 hch2)
                  | (go_at_call 14; (with_reducible refine (rput_k w w.heap.size gm size ps.length k1 mr mv ps B' cb _ hm2 hsw2 HMR.out hs4 HB0.out hbw2 hids.2.2 (Nat.le_refl _) rfl (by omega) HLS.out HKm.out).mono ?_); rintro e w3 ⟨rfl, hr3⟩; obtain ⟨hrc3, hcB3, hbw3, hBK⟩ := pl_w3 H1.out hbcd hg2 hr3 hownd hcBd; have cW3 := (hBK go_ 37 _ (by decide) (by decide) hOc).cell 1; simp only [List.getElem?_cons_zero, List.getElem?_cons_succ] at cW3)
                  | (go_at_call 15; (with_reducible refine (kept_n w wa.heap.size wc.heap.size ps.length ps cs B' C cb cc _ HB0.out hbw3 (by omega) hrc3 hcS hcB3 rfl (by omega) HLS.out).mono ?_); rintro e w4 ⟨rfl, hc4⟩; have cW4 : w4.cell? ⟨go_, 1, none⟩ = some (.slice B' ps.length cb) := hc4.cell cW3 (by have := hO.lt; simp only; omega)))
              all_goals
                have hfin := pl_put H1.out HK1.out hbcd hq2 ho2 hg2 hr3 hc4
                have G : Hid (PlOut w gq gc gm size w4) := ⟨_, fun x hx => by
                  rcases List.mem_append.1 hx with hx | hx
                  · exact HX.out x hx
                  · have := total_mem (List.mem_of_mem_take hx); omega, hfin⟩
                clear hfin hq2 ho2 hg2 hr3 hc4 hm2 hbw2 hrc3 hcB3 hbw3 hBK
                go_wp2_with fail
                go_meet
                exact G
          · by_cases hk2 : kd = 2
            · subst hk2
              clear hk01
              cases xs with
              | nil =>
                obtain rfl : qv = [] := List.eq_nil_of_length_eq_zero H1.out.lq
                obtain rfl : mv = [] := List.eq_nil_of_length_eq_zero H1.out.lm
                go_wp2_with fail
                (with_reducible refine (get_none gq gc size wa H1.out.q).mono ?_)
                rintro e w2 ⟨rfl, rfl⟩
                go_wp2_with fail
                (with_reducible refine (rget_none w.heap.size gm (size : Int) mr w2 H1.out.m).mono ?_)
                rintro e w3 ⟨rfl, rfl⟩
                have hR0 : RB w3 none [] := fun j u hu => by simp at hu
                have s1 := run_str (P := Try.prog) _ _ _ _ Try.underlying42 Try.underlying5 Try.underlying9 none 0 0 [] hR0 rfl
                have hcm : ((bs []).toList != (bs []).toList) = false := by simp
                generalize bs [] = q0 at *
                go_wp2_with fail
                (with_reducible refine (over_nil w3).mono ?_)
                rintro e w4 ⟨⟨v, rfl⟩, rfl⟩
                have G : Hid (PlOut w gq gc gm size w4) := ⟨[], fun x hx => (by cases hx), _, _, _, H1.out⟩
                go_wp2_with fail
                go_meet
                exact G
              | cons x xs =>
                obtain ⟨v, qv, rfl⟩ : ∃ v q, qv = v :: q := by
                  have := H1.out.lq
                  cases qv with
                  | nil => simp at this
                  | cons v q => exact ⟨v, q, rfl⟩
                obtain ⟨u, mv, rfl⟩ : ∃ v q, mv = v :: q := by
                  have := H1.out.lm
                  cases mv with
                  | nil => simp at this
                  | cons v q => exact ⟨v, q, rfl⟩
                have hxl := HX.out x (by simp)
                have hml : mv.length ≤ 5000 := by have h1 := H1.out.lm; have h2 := H1.out.room; simp at h1 h2; omega
                have HSL := Lib.hid (fun (y : Value) (hy : y ∈ u :: mv) => H1.out.own.sl y (List.mem_append_right _ hy))
                have hovq := H1.out.own.own 0 v x rfl rfl
                have hovm := H1.out.own.own (v :: qv).length u x (by simp) (by have := H1.out.lq; rw [this]; simp)
                obtain ⟨A1, c1, rfl, hc1, hr1', -⟩ := own_form hovq
                obtain ⟨A2, c2, rfl, hc2, hr2', -⟩ := own_form hovm
                have hwas := H1.out.bel.size
                have HOV := Lib.hid hovq
                clear hovq
                go_wp2_with fail
                (with_reducible refine (get_some gq gc size _ qv wa H1.out.q).mono ?_)
                rintro e w2 ⟨rfl, hq2, hg2⟩
                have hch2 := ChO.chan H1.out.q.2 hg2
                have hm2 : Rq w2 w.heap.size gm (size : Int) mr (.slice A2 x.length c2 :: mv) := ⟨H1.out.m.blk.cho hch2, own_cho H1.out.m.own hch2⟩
                have hs2 : w.heap.size ≤ w2.heap.size := by have := hg2.size; omega
                go_wp2_with fail
                (with_reducible refine (rget_some w.heap.size gm (size : Int) mr _ mv w2 hm2 hs2 HSL.out hml).mono ?_)
                rintro e w3 ⟨mr3, rfl, hm3, hg3, hn3⟩
                have hrow : ∀ (A : Option Addr) (c n : Nat) (cs : List Value), wa.ownsRow w.heap.size 5 1 (.slice A n c) n cs → w3.ownsRow w.heap.size 5 1 (.slice A n c) n cs := fun A c n cs ho => by
                  have ho2 := own_cho ho hch2
                  refine ho2.kept hg3 ?_
                  cases hb : (Value.slice A n c).ownBlock with
                  | none => exact .inl rfl
                  | some b => exact .inr (fun e => by injection e with e; exact own_blk_ne ho2 hm2.blk (by decide) b hb e)
                have hv3 := hrow A1 c1 x.length (x.map bv) HOV.out
                have hu3 := hrow A2 c2 x.length (x.map bv) hovm
                have hB1 : RB w3 A1 x := RC.of_own hv3
                have hB2 : RB w3 A2 x := RC.of_own hu3
                have s1 := run_str (P := Try.prog) _ _ _ _ Try.underlying42 Try.underlying5 Try.underlying9 A1 x.length c1 x hB1 rfl
                have s2 := run_str (P := Try.prog) _ _ _ _ Try.underlying42 Try.underlying5 Try.underlying9 A2 x.length c2 x hB2 rfl
                have hcm : ((bs x).toList != (bs x).toList) = false := by simp
                generalize bs x = q0 at *
                have HV3 := Lib.hid hv3
                clear hv3 hu3 hrow hovm hr1' hr2' o0 o1
                go_wp2_with fail
                (with_reducible refine (over_own x w.heap.size A1 x.length c1 w3 (by omega) HV3.out).mono ?_)
                rintro e w4 ⟨⟨r, rfl⟩, hg4⟩
                have G : Hid (PlOut w gq gc gm size w4) := ⟨xs, fun y hy => HX.out y (List.mem_cons_of_mem _ hy), pl_get H1.out hq2 hg2 hm3 hg3 hn3 hg4⟩
                clear hq2 hg2 hm3 hg3 hn3 hg4 s1 s2 hm2
                go_wp2_with fail
                go_meet
                exact G
            · have hk0 : (kd == 0) = false := by simp; omega
              have hk1 : (kd == 1) = false := by simp; omega
              have hk2' : (kd == 2) = false := by simp; omega
              clear hk01 hk2
              have hroom := H1.out.room
              have hlq := H1.out.lq
              have hlm := H1.out.lm
              have HLQ := Lib.hid hlq
              have HLM := Lib.hid hlm
              have HSL := Lib.hid (fun (y : Value) (hy : y ∈ qv) => H1.out.own.sl y (List.mem_append_left _ hy))
              have hq4 : qv.length ≤ 4000000 := by omega
              clear hlq hlm
              go_wp2_with fail
              (with_reducible refine (drain_any gq gc size qv wa H1.out.q HSL.out hq4).mono ?_)
              rintro e w2 ⟨v, rfl, hown2, hq2, hg2⟩
              have hch2 := ChO.chan H1.out.q.2 hg2
              have hm2 : Rq w2 w.heap.size gm (size : Int) mr mv := ⟨H1.out.m.blk.cho hch2, own_cho H1.out.m.own hch2⟩
              obtain ⟨A1, c1, rfl, -, -, -⟩ := own_form hown2
              go_wp2_with fail
              (with_reducible refine (rdrain_any w.heap.size gm (size : Int) mr mv w2 hm2).mono ?_)
              rintro e w3 ⟨rfl, hm3, hg3⟩
              obtain ⟨hst, hv1, hv2, hmo3⟩ := pl_drain H1.out hq2 hg2 hm3 hg3 0
              have hown3 : w3.ownsRow wa.heap.size 42 1 (.slice A1 qv.length c1) qv.length qv := by
                refine hown2.kept hg3 ?_
                cases hb : (Value.slice A1 qv.length c1).ownBlock with
                | none => exact .inl rfl
                | some b => exact .inr (fun e => by injection e with e; exact own_blk_ne hown2 hm2.blk (by decide) b hb e)
              obtain ⟨A2, c2, rfl, -, -, -⟩ := own_form hmo3
              have hP1 : RP w3 A1 xs := hv1.rp (RC.of_own hown3)
              have hP2 : RP w3 A2 xs := hv2.rp (RC.of_own hmo3)
              clear hown2 hown3 hmo3 hv1 hv2 hst o0 o1
              go_wp2_with fail
              (with_reducible refine (rows_n qv.length mv.length xs xs A1 A2 c1 c2 w3 HLQ.out.symm HLM.out.symm hP1 hP2 hq4).mono ?_)
              rintro e w4 ⟨rfl, q, rfl⟩
              simp only [decide_true]
              have G : Hid (PlOut w gq gc gm size (w3.drewN q)) := ⟨[], fun x hx => (by cases hx), (pl_drain H1.out hq2 hg2 hm3 hg3 q).1⟩
              clear hq2 hg2 hm3 hg3 hm2
              go_wp2_with fail
              go_meet
              exact G
        case rest =>
          obtain ⟨xs2, hx2, qv2, mv2, mr2, h2⟩ := hcut.out
          have HX2 := Lib.hid hx2
          have H2 := Lib.hid h2
          obtain ⟨M, mc, rfl, -, -, -⟩ := own_form h2.m.own
          have hroom := h2.room
          have c0 := h2.m.blk.cell 0
          simp only [List.getElem?_cons_zero] at c0
          rw [h2.lm] at c0
          have hq2 : ∀ k, Qc (wc.drewN k) gq gc size qv2 := fun k => h2.q.kept (below_dn wc k)
          have hw1 : IntKind.i64.wrap ((size : Int) - (xs2.length : Int)) = ((size - xs2.length : Nat) : Int) := by rw [IntWalk.i64_in _ (by omega)]; omega
          have hle : Hid ((qv2.length : Int) = (xs2.length : Int)) := by show _ = _; rw [h2.lq]
          have hro : Hid (((size - qv2.length : Nat) : Int) = ((size - xs2.length : Nat) : Int)) := by show _ = _; rw [h2.lq]
          have hq2l : qv2.length ≤ size := by rw [h2.lq]; exact hroom
          clear hx2 h2 hcut
          go_wp2_with fail
          go_quiet ((first
            | (go_at_call 22; with_reducible exact Calls.quiet_of_same (len_i gq gc size qv2 (xs2.length : Int) _ (hq2 _) hle.out))
            | (go_at_call 23; with_reducible exact Calls.quiet_of (room_i gq gc size qv2 ((size - xs2.length : Nat) : Int) _ (hq2 _) hq2l hs4 hro.out))))
          go_wp2_with fail
          go_roundw
          case rel => exact ⟨k + 1, xs2, by omega, by go_num, HX2.out, ⟨_, _, _, H2.out.kept (below_dn wc nq)⟩⟩
          case measure => simp [intOf]; omega
      · go_wp2_with fail
        go_ret
        obtain ⟨qv, mv, mr, h⟩ := HS.out
        exact ⟨rfl, h.bel⟩
theorem QueuePlaysX_walk (x0 : Int) (x1 : List QOp) (A1 : Option Addr) (c1 : Nat) (w : World) (u0 : (Lit.int .i64 x0).wf = true) (y1 : OpsAt w A1 x1) (z1 : OpsLe x1) (n1 : x1.length ≤ 1048576) :
    Calls Try.prog 3 #[.int .i64 x0, .slice A1 x1.length c1] w fun e w' => e = .returned (.bool true) ∧ Below w.heap.size w w' :=
  QueuePlays_walk x0 x1 A1 c1 w y1 z1 n1
end Go.Proofs.Ytkgkbmiacomhdaa
