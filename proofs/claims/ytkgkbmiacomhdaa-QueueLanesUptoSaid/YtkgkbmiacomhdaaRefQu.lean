/- The document's queue: its place in memory; the walks of Good, Put, Get, Drain. -/
import Derived.Test.YtkgkbmiacomhdaaCho
import Derived.Deep.RegionHeld3
namespace Go.Proofs.Ytkgkbmiacomhdaa
set_option linter.unusedVariables false
set_option linter.unusedSimpArgs false
open Go.RowKit Go.Conc

/-- The document's queue behind a pointer. -/
structure Rq (w : World) (base gm : Nat) (size : Int) (mr : Value) (mv : List Value) : Prop where
  blk : Blk w gm 35 [mr, .int .i64 size]
  own : w.ownsRow base 42 1 mr mv.length mv
/-- Blocks but gm and a row's are as they were. -/
def Chg (w w' : World) (S : Nat → Prop) : Prop := w'.os = w.os ∧ w'.tape = w.tape ∧ w'.output = w.output ∧ w.heap.size ≤ w'.heap.size ∧ ∀ k, k < w.heap.size → ¬ S k → w'.heap[k]? = w.heap[k]?
theorem Chg.refl (w : World) (S : Nat → Prop) : Chg w w S := ⟨rfl, rfl, rfl, Nat.le_refl _, fun _ _ _ => rfl⟩
theorem Chg.of {w w' : World} {row : Option Nat} {S : Nat → Prop} (h : w.grownBy w' row) (hs : ∀ b, row = some b → S b) : Chg w w' S :=
  ⟨h.os, h.tape, h.output, h.size, fun k hk hn => h.block k hk (fun e => hn (hs k e.symm))⟩
theorem Chg.trans {w w' w2 : World} {S : Nat → Prop} (h : Chg w w' S) (h2 : Chg w' w2 S) : Chg w w2 S :=
  ⟨h2.1.trans h.1, h2.2.1.trans h.2.1, h2.2.2.1.trans h.2.2.1, Nat.le_trans h.2.2.2.1 h2.2.2.2.1, fun k hk hn => (h2.2.2.2.2 k (Nat.lt_of_lt_of_le hk h.2.2.2.1) hn).trans (h.2.2.2.2 k hk hn)⟩
theorem Chg.fresh {w w' w2 : World} {row : Option Nat} {S : Nat → Prop} (h : Chg w w' S) (h2 : w'.grownBy w2 row) (hs : ∀ b, row = some b → b < w.heap.size → S b) : Chg w w2 S :=
  ⟨h2.os.trans h.1, h2.tape.trans h.2.1, h2.output.trans h.2.2.1, Nat.le_trans h.2.2.2.1 h2.size, fun k hk hn => (h2.block k (Nat.lt_of_lt_of_le hk h.2.2.2.1) (fun e => hn (hs k e.symm hk))).trans (h.2.2.2.2 k hk hn)⟩
theorem Chg.below {w w' : World} {S : Nat → Prop} {B : Nat} (h : Chg w w' S) (hb : B ≤ w.heap.size) (hs : ∀ k, S k → B ≤ k) : Below B w w' :=
  ⟨h.1, h.2.1, h.2.2.1, h.2.2.2.1, fun k hk => h.2.2.2.2 k (Nat.lt_of_lt_of_le hk hb) (fun e => by have := hs k e; omega)⟩
theorem Chg.blk {w w' : World} {S : Nat → Prop} {g : Nat} {t : TypeId} {cs : List Value} (h : Chg w w' S) (hb : Blk w g t cs) (hn : ¬ S g) : Blk w' g t cs := (h.2.2.2.2 g hb.lt hn).trans hb
theorem Chg.ch {w w' : World} {S : Nat → Prop} {c cap : Nat} {vs : List Value} (h : Chg w w' S) (hc : Ch w c cap vs) (hn : ¬ S c) : Ch w' c cap vs := by
  have hl := hc.lt
  obtain ⟨s, r, hc⟩ := hc
  exact ⟨s, r, (h.2.2.2.2 c hl hn).trans hc⟩
theorem Chg.row {w w' : World} {S : Nat → Prop} {base n : Nat} {e : TypeId} {v : Value} {xs : List Value} (h : Chg w w' S) (ho : w.ownsRow base e 1 v n xs) (hn : ∀ b, v.ownBlock = some b → ¬ S b) : w'.ownsRow base e 1 v n xs := by
  refine ⟨ho.1, ?_⟩
  rcases ho.2 with h0 | ⟨g, cap, cur, rfl, hb, hg, r⟩
  · exact .inl h0
  · refine .inr ⟨g, cap, cur, rfl, hb, ?_, r⟩
    rw [h.2.2.2.2 g (Array.getElem?_eq_some_iff.1 hg).1 (hn g rfl), hg]
theorem Chg.own {w w' : World} {S : Nat → Prop} {base : Nat} {vs : List Value} {xs : List (List UInt8)} (h : Chg w w' S) (ho : Own w base vs xs) (hn : ∀ v ∈ vs, ∀ b, v.ownBlock = some b → ¬ S b) : Own w' base vs xs :=
  ⟨ho.len, fun j v x hv hx => h.row (ho.own j v x hv hx) (hn v (List.mem_of_getElem? hv)), ho.dis⟩
theorem Chg.cell {w w' : World} {S : Nat → Prop} {p : Addr} {u : Value} (h : Chg w w' S) (hc : w.cell? p = some u) (hn : ¬ S p.block) : w'.cell? p = some u := by
  have hb := h.2.2.2.2 p.block (World.block_lt_of_cell? w p hc) hn
  rw [← hc]
  simp only [World.cell?, hb]
theorem Chg.rc {w w' : World} {S : Nat → Prop} {A : Option Addr} {cs : List Value} (h : Chg w w' S) (hc : RC w A cs) (hn : ∀ ad, A = some ad → ¬ S ad.block) : RC w' A cs := fun j u hu => by
  obtain ⟨ad, e, hcell⟩ := hc j u hu
  exact ⟨ad, e, h.cell hcell (by rw [add_block]; exact hn ad e)⟩

set_option maxHeartbeats 400000 in
theorem good_yes (n : Int) (w : World) (h1 : 0 ≤ n) (h2 : n ≤ 4096) : Calls Try.prog 10 #[.int .i64 n] w fun e w' => e = .returned (.bool true) ∧ w' = w := by
  go_enter Try.func10, Try.ntmps10
  go_wp2
  go_ret
  exact ⟨rfl, rfl⟩
set_option maxHeartbeats 400000 in
theorem good_no (n : Int) (w : World) (h : n < 0 ∨ 4096 < n) : Calls Try.prog 10 #[.int .i64 n] w fun e w' => e = .returned (.bool false) ∧ w' = w := by
  rcases h with h | h
  · have f1 : decide (0 ≤ n) = false := by simp; omega
    go_enter Try.func10, Try.ntmps10
    go_wp2
    go_ret
    exact ⟨rfl, rfl⟩
  · have f2 : decide (n ≤ 4096) = false := by simp; omega
    have f1 : decide (0 ≤ n) = true := by simp; omega
    go_enter Try.func10, Try.ntmps10
    go_wp2
    go_ret
    exact ⟨rfl, rfl⟩

set_option maxHeartbeats 400000 in
theorem rdrain_any (base gm : Nat) (size : Int) (mr : Value) (mv : List Value) (w : World) (h : Rq w base gm size mr mv) :
    Calls Try.prog 21 #[.pointer (some ⟨gm, 0, none⟩)] w fun e w' => e = .returned mr ∧ Rq w' base gm size (.slice none 0 0) [] ∧ w.grownBy w' (some gm) := by
  have c0 := h.blk.cell 0
  have fz := h.blk.frozen 0
  have hg := grown_set w gm 0 (.slice none 0 0)
  have hb := h.blk.set_ 0 (.slice none 0 0)
  simp only [List.getElem?_cons_zero] at c0
  obtain ⟨A, c, rfl, -, -, -⟩ := own_form h.own
  go_enter Try.func21, Try.ntmps21
  go_wp2
  go_ret
  exact ⟨rfl, ⟨hb, World.ownsRow_nil _ _ _ _⟩, hg⟩

/-- What the document's Put has done behind k rows. -/
def RPut (w : World) (base gm size : Nat) (mb : Option Nat) (mv : List Value) (ps : List (List UInt8)) (k : Nat) (wx : World) : Prop :=
  ∃ mr news, Rq wx base gm (size : Int) mr (mv ++ news) ∧ Own wx w.heap.size news (ps.take k) ∧ Chg w wx (fun b => b = gm ∨ mb = some b) ∧ (mr.ownBlock = mb ∨ ∃ b, mr.ownBlock = some b ∧ w.heap.size ≤ b)
theorem below_dn (w : World) (n : Nat) : Below w.heap.size w (w.drewN n) := ⟨rfl, rfl, rfl, Nat.le_refl _, fun _ _ => rfl⟩
theorem RPut.drewN {w : World} {base gm size : Nat} {mb : Option Nat} {mv : List Value} {ps : List (List UInt8)} {k : Nat} {wx : World} (h : RPut w base gm size mb mv ps k wx) (n : Nat) : RPut w base gm size mb mv ps k (wx.drewN n) := by
  obtain ⟨m, news, hq, ho, hc, hm⟩ := h
  exact ⟨m, news, ⟨hq.blk.kept (below_dn wx n), own_below hq.own (below_dn wx n)⟩, ho.below (below_dn wx n), hc.trans ⟨rfl, rfl, rfl, Nat.le_refl _, fun _ _ _ => rfl⟩, hm⟩
theorem rp_at_lt {w : World} {A : Option Addr} {ps : List (List UInt8)} {k : Nat} (h : RP w A ps) (hk : k < ps.length) {ad : Addr} (e : A = some ad) : ad.block < w.heap.size := by
  obtain ⟨ad', B, c, e', hc, _⟩ := h.at_ k hk
  rw [e'] at e
  injection e with e
  subst e
  have := World.block_lt_of_cell? w _ hc
  rwa [add_block] at this
theorem own_blk_ne {w : World} {base g n : Nat} {e t : TypeId} {v : Value} {xs cs : List Value} (h : w.ownsRow base e 1 v n xs) (hb : Blk w g t cs) (hne : e ≠ t) : ∀ b, v.ownBlock = some b → b ≠ g := by
  intro b hv e
  subst e
  rcases h.2 with ⟨rfl, _⟩ | ⟨g, cap, cur, rfl, _, hg, _⟩
  · cases hv
  simp only [Value.ownBlock, Option.some.injEq] at hv
  subst hv
  unfold Blk at hb
  rw [hg] at hb
  injection hb with hb
  injection hb with _ ht
  exact hne ht
theorem own_not_types {w : World} {base base' n n' : Nat} {e e' : TypeId} {v v' : Value} {xs xs' : List Value} (h : w.ownsRow base e 1 v n xs) (h' : w.ownsRow base' e' 1 v' n' xs') (hne : e ≠ e') : ∀ b, v.ownBlock = some b → v'.ownBlock ≠ some b := by
  intro b hb hb'
  rcases h.2 with ⟨rfl, _⟩ | ⟨g, cap, cur, rfl, _, hg, _⟩
  · cases hb
  rcases h'.2 with ⟨rfl, _⟩ | ⟨g', cap', cur', rfl, _, hg', _⟩
  · cases hb'
  simp only [Value.ownBlock, Option.some.injEq] at hb hb'
  subst hb hb'
  rw [hg] at hg'
  injection hg' with hg'
  injection hg' with _ ht
  exact hne ht

theorem set_row {w : World} {g i base n : Nat} {e t : TypeId} {v u : Value} {xs cs : List Value} (h : w.ownsRow base e 1 v n xs) (hb : Blk w g t cs) (hne : e ≠ t) : (w.setCell ⟨g, i, none⟩ u).ownsRow base e 1 v n xs :=
  h.kept (grown_set w g i u) (by
    cases hv : v.ownBlock with
    | none => exact .inl rfl
    | some b => exact .inr (fun e => own_blk_ne h hb hne b hv (by injection e)))
theorem rput_step {w wb w3 w4 : World} {base gm size k n : Nat} {mb : Option Nat} {mv news : List Value} {ps : List (List UInt8)} {M v2 v4 : Value} {x : List UInt8} (hno : Own wb w.heap.size news (ps.take k)) (hch : Chg w wb (fun b => b = gm ∨ mb = some b))
    (hmb : M.ownBlock = mb ∨ ∃ b, M.ownBlock = some b ∧ w.heap.size ≤ b) (hb3 : Below wb.heap.size wb w3) (hqo : w3.ownsRow base 42 1 M n (mv ++ news)) (hblk : Blk w4 gm 35 [M, .int .i64 (size : Int)])
    (hown2 : w3.ownsRow wb.heap.size 5 1 v2 x.length (x.map bv)) (hown4 : w4.ownsRow base 42 1 v4 (n + 1) ((mv ++ news) ++ [v2])) (hg4 : w3.grownBy w4 M.ownBlock) (hat : At w3 M v4) (ht : ps.take (k + 1) = ps.take k ++ [x]) (hn : (mv ++ news).length = n) :
    RPut w base gm size mb mv ps (k + 1) (w4.setCell ⟨gm, 0, none⟩ v4) := by
  have hws := hch.2.2.2.1
  have hs3 := hb3.size
  refine ⟨v4, news ++ [v2], ⟨hblk.set_ 0 v4, ?_⟩, ?_, ?_, ?_⟩
  · have h := set_row (i := 0) (u := v4) hown4 hblk (by decide)
    rw [← List.append_assoc, List.length_append, hn]
    exact h
  · rw [ht]
    have h1 : Own w3 w.heap.size (news ++ [v2]) (ps.take k ++ [x]) := (hno.below hb3).snoc hown2 hws (fun u hu b hb => (hno.lt hu hb).2)
    have h2 : Own w4 w.heap.size (news ++ [v2]) (ps.take k ++ [x]) := h1.grown hg4 (fun u hu b hb e => by
      obtain ⟨j, hj⟩ := List.getElem?_of_mem hu
      obtain ⟨y, _, ho⟩ := h1.at_ hj
      exact own_not_types ho hqo (by decide) b hb e)
    exact h2.grown (grown_set w4 gm 0 v4) (fun u hu b hb e => by
      obtain ⟨j, hj⟩ := List.getElem?_of_mem hu
      obtain ⟨y, _, ho⟩ := h2.at_ hj
      injection e with e
      exact own_blk_ne ho hblk (by decide) b hb e.symm)
  · have h1 := hch.fresh (grown_of_below (row := none) hb3) (fun b hb => by cases hb)
    have h2 := h1.fresh hg4 (fun b hb hlt => by
      rcases hmb with e | ⟨b', e, hle⟩
      · exact .inr (by rw [← e, hb])
      · rw [e] at hb; injection hb with hb; omega)
    exact h2.fresh (grown_set w4 gm 0 v4) (fun b hb _ => by injection hb with hb; exact .inl hb.symm)
  · rcases hat with e | e
    · rw [e]; exact hmb
    · exact .inr ⟨_, e, by omega⟩

set_option maxRecDepth 100000 in
set_option maxHeartbeats 3200000 in
theorem rput_any (w0 : World) (base gm size : Nat) (mr : Value) (mv : List Value) (ps : List (List UInt8)) (A : Option Addr) (c : Nat) (w : World) (h : Rq w base gm (size : Int) mr mv) (hbs : base ≤ w.heap.size) (hml : mv.length ≤ size) (hsz : size ≤ 4096)
    (hA : RP w0 A ps) (hw0 : Below w0.heap.size w0 w) (hgm : w0.heap.size ≤ gm) (hb0 : w0.heap.size ≤ base) (hl : ps.length ≤ 4000000) (hls : ∀ x ∈ ps, x.length ≤ 4000000) :
    Calls Try.prog 14 #[.pointer (some ⟨gm, 0, none⟩), .slice A ps.length c] w fun e w' => e = .returned (.int .i64 ((min ps.length (size - mv.length) : Nat) : Int)) ∧ RPut w base gm size mr.ownBlock mv ps (min ps.length (size - mv.length)) w' := by
  obtain ⟨i0, hi, hz0, hz1, hz2⟩ := info_parts info_row
  obtain ⟨j0, hj, hy0, hy1, hy2⟩ := info_parts info_u8
  have HLS := Lib.hid hls
  have hR0 : Hid (RPut w base gm size mr.ownBlock mv ps 0 w) := ⟨mr, [], by rw [List.append_nil]; exact h, by rw [List.take_zero]; exact Own.nil _ _, Chg.refl _ _, .inl rfl⟩
  have HW0 := Lib.hid hw0
  have hgl := h.blk.lt
  have hmb : ∀ b, mr.ownBlock = some b → base ≤ b := fun b hb => (own_lt h.own hb).1
  have HMB := Lib.hid hmb
  clear hls hw0 h hmb
  go_enter Try.func14, Try.ntmps14
  go_wp2_with fail
  go_loopw [5] (fun n wr => ∃ k : Nat, k ≤ ps.length ∧ mv.length + k ≤ size ∧ n = .int .i64 (k : Int) ∧ Hid (RPut w base gm size mr.ownBlock mv ps k wr)) (fun n _ => ps.length - (intOf n).toNat)
  case atStart => exact ⟨0, Nat.zero_le _, by omega, rfl, hR0⟩
  case round =>
    obtain ⟨k, hk, hks, rfl, HR⟩ := hrel
    obtain ⟨m2, news, hq, hno, hch, hmb2⟩ := HR.out
    have hnl : news.length = k := by have := hno.len; rw [List.length_take] at this; omega
    have c0 := hq.blk.cell 0
    have c1 := hq.blk.cell 1
    simp only [List.getElem?_cons_zero, List.getElem?_cons_succ] at c0 c1
    have HQ := Lib.hid hq
    obtain ⟨M, mc, rfl, hmc, -, -⟩ := own_form hq.own
    have hmn : (mv ++ news).length = mv.length + k := by rw [List.length_append, hnl]
    rw [hmn] at c0
    have HMN := Lib.hid hmn
    have hbw : Below w0.heap.size w0 wr := HW0.out.trans (hch.below HW0.out.size (fun b hb => by
      rcases hb with rfl | hb
      · exact hgm
      · have := HMB.out b hb; omega))
    clear hq hno hch hmb2 hnl hmn hmc
    by_cases hlt : k < ps.length
    · have f1 : decide (k < ps.length) = true := by simp; omega
      by_cases hroom : mv.length + k < size
      · have f2 : decide ((mv.length : Int) + (k : Int) < (size : Int)) = true := by simp; omega
        have HRP := Lib.hid (hA.below hbw)
        go_wp2_with fail
        go_quiet (fail)
        have HR2 : Hid (RPut w base gm size mr.ownBlock mv ps k (wr.drewN nq)) := HR.out.drewN nq
        have HRP2 : Hid (RP (wr.drewN nq) A ps) := HRP.out.below (below_dn wr nq)
        clear c0 c1 HR HQ HRP hbw
        generalize wr.drewN nq = wb at *
        obtain ⟨m3, news3, hq, hno, hch, hmb2⟩ := HR2.out
        have hnl : news3.length = k := by have := hno.len; rw [List.length_take] at this; omega
        obtain ⟨M, mc, rfl, hmc, -, -⟩ := own_form hq.own
        have hmn : (mv ++ news3).length = mv.length + k := by rw [List.length_append, hnl]
        obtain ⟨hqb, hqo⟩ := hq
        rw [hmn] at hqb hqo hmb2
        obtain ⟨ad, B, cb, rfl, hcell, hcb, hB⟩ := HRP2.out.at_ k hlt
        have hadl := rp_at_lt hA hlt rfl
        have hxl := HLS.out ps[k] (List.getElem_mem hlt)
        have HT := Lib.hid (take_snoc ps k hlt)
        generalize ps[k] = x at *
        have hcell0 := hcell
        have c0 := hqb.cell 0
        have fz := hqb.frozen 0
        simp only [List.getElem?_cons_zero] at c0
        have hki : (k : Int) < (ps.length : Int) := by omega
        have hk0 : (0 : Int) ≤ (k : Int) := by omega
        have HNO := Lib.hid hno
        have HCH := Lib.hid hch
        have HMB2 := Lib.hid hmb2
        have HMN := Lib.hid hmn
        have HNL := Lib.hid hnl
        clear hno hch hmb2 hmn hnl
        -- the first append, at the world behind the empty literal
        have e1 : Below wb.heap.size wb (wb.alloc (.cells #[] 5)).drew := Below.drew ((Below.refl _ wb).alloc (Nat.le_refl _) _)
        have hown0 : (wb.alloc (.cells #[] 5)).drew.ownsRow wb.heap.size 5 1 (.slice (some ⟨wb.heap.size, 0, none⟩) 0 0) 0 [] := own_empty wb wb.heap.size 5 wb.heap.size rfl (Nat.le_refl _)
        have hB1 := hB.below e1
        have hcellA := cell_keep e1 hcell
        have c0A := cell_keep e1 c0
        go_wp2_with fail
        go_cut [] (fun wx => Hid (RPut w base gm size mr.ownBlock mv ps (k + 1) wx))
        case first =>
          go_region_law (first
            | ((with_reducible refine at_world (wb.alloc (.cells #[] 5)).drew ?_); refine step_app _ rfl (.tmp 27) (.tmp 31) 42 rfl wb.heap.size 5 j0 (.int .u8 0) 1 1 Try.underlying42 hj hy0 hy1 hy2 rfl (by omega) _ 0 [] rfl hown0 B x.length cb (x.map bv) rfl (by simp) hB1 (one_bv x) (by unfold maxLen; omega) (by omega) (by simp) ?_; intro v2 w2 hown2 hg2 hat2; have hb2 : Below wb.heap.size wb w2 := e1.grown hg2 e1.size (fun q hq => (own_lt hown0 hq).1); have c0B := cell_keep hb2 c0; have hcellB := cell_keep hb2 hcell; (try simp only [Nat.zero_add, List.nil_append] at hown2); obtain ⟨A2, k2, rfl, hk2, hr2, -⟩ := own_form hown2; have hb3 : Below wb.heap.size wb (w2.alloc (.cells #[.slice A2 x.length k2] 42)) := hb2.alloc hb2.size _; have c0C := cell_keep hb3 c0; have hcellC := cell_keep hb3 hcell; have hqo3 := own_below hqo hb3; have hbs3 : base ≤ (w2.alloc (.cells #[.slice A2 x.length k2] 42)).heap.size := by have := hb3.size; have := HCH.out.2.2.2.1; omega)
            | ((with_reducible refine at_world (w2.alloc (.cells #[.slice A2 x.length k2] 42)) ?_); refine step_app _ rfl (.tmp 26) (.tmp 33) 33 rfl base 42 i0 (.slice none 0 0) 1 24 Try.underlying33 hi hz0 hz1 hz2 rfl (by omega) _ (mv.length + k) (mv ++ news3) rfl hqo3 (some ⟨w2.heap.size, 0, none⟩) 1 1 [.slice A2 x.length k2] rfl rfl (rc_new w2 [.slice A2 x.length k2] 42) (by simp [Value.oneCell']) (by unfold maxLen; omega) (by omega) hbs3 ?_; intro v4 w4 hown4 hg4 hat4; have hblk4 := (hqb.kept hb3).grown hg4 (fun e => own_blk_ne hqo3 (hqb.kept hb3) (by decide) gm e.symm rfl); have c0D := hblk4.cell 0; have fzD := hblk4.frozen 0; simp only [List.getElem?_cons_zero] at c0D; obtain ⟨A4, k4, rfl, hk4, -, -⟩ := own_form hown4))
          all_goals
            go_wp2_with fail
            go_meet
            exact rput_step HNO.out HCH.out HMB2.out hb3 hqo3 hblk4 (hown2.alloc _) hown4 hg4 hat4 HT.out HMN.out
        case rest =>
          go_wp2_with fail
          go_roundw
          case rel => exact ⟨k + 1, by omega, by omega, by go_num, hcut⟩
          case measure => simp [intOf]; omega
      · have f2 : decide ((mv.length : Int) + (k : Int) < (size : Int)) = false := by simp; omega
        have HK : Hid (min ps.length (size - mv.length) = k) := by show _ = _; omega
        go_wp2_with fail
        go_quiet (fail)
        have HR2 : Hid (RPut w base gm size mr.ownBlock mv ps k (wr.drewN nq)) := HR.out.drewN nq
        go_wp2_with fail
        go_ret
        rw [HK.out]
        exact ⟨rfl, HR2.out⟩
    · have f1 : decide (k < ps.length) = false := by simp; omega
      have HK : Hid (min ps.length (size - mv.length) = k) := by show _ = _; omega
      go_wp2_with fail
      go_quiet (fail)
      have HR2 : Hid (RPut w base gm size mr.ownBlock mv ps k (wr.drewN nq)) := HR.out.drewN nq
      go_wp2_with fail
      go_ret
      rw [HK.out]
      exact ⟨rfl, HR2.out⟩

set_option maxHeartbeats 800000 in
theorem rget_none (base gm : Nat) (size : Int) (mr : Value) (w : World) (h : Rq w base gm size mr []) :
    Calls Try.prog 17 #[.pointer (some ⟨gm, 0, none⟩)] w fun e w' => e = .returned (.tuple #[.slice none 0 0, .bool false]) ∧ w' = w := by
  have c0 := h.blk.cell 0
  simp only [List.getElem?_cons_zero] at c0
  obtain ⟨A, c, rfl, -, -, -⟩ := own_form h.own
  simp only [List.length_nil] at c0
  go_enter Try.func17, Try.ntmps17
  go_wp2
  go_ret2
  exact ⟨rfl, rfl⟩
set_option maxHeartbeats 1600000 in
theorem rget_some (base gm : Nat) (size : Int) (mr v : Value) (rest : List Value) (w : World) (h : Rq w base gm size mr (v :: rest)) (hbs : base ≤ w.heap.size) (hsl : ∀ u ∈ v :: rest, IsSl u) (hl : rest.length ≤ 5000) :
    Calls Try.prog 17 #[.pointer (some ⟨gm, 0, none⟩)] w fun e w' => ∃ mr2, e = .returned (.tuple #[v, .bool true]) ∧ Rq w' base gm size mr2 rest ∧ w.grownBy w' (some gm) ∧ ∀ b, mr2.ownBlock = some b → w.heap.size ≤ b := by
  obtain ⟨i0, hi, hz0, hz1, hz2⟩ := info_parts info_row
  have c0 := h.blk.cell 0
  have fz := h.blk.frozen 0
  simp only [List.getElem?_cons_zero] at c0
  obtain ⟨vA, vn, vc, rfl⟩ := hsl v (by simp)
  have hgml := h.blk.lt
  obtain ⟨g, mc, rfl, hgb, hgl⟩ := own_headE h.own (by simp)
  have hr := RC.of_own h.own
  have hv := own_cellE h.own 0 (by simp)
  simp only [List.getElem?_cons_zero] at hv
  have hmc : rest.length + 1 ≤ mc := by
    obtain ⟨_, c', e, hle, _⟩ := own_form h.own
    injection e with _ _ e
    subst e
    simpa using hle
  have HON := Lib.hid (sl_one (fun u hu => hsl u (List.mem_cons_of_mem _ hu) : ∀ u ∈ rest, IsSl u))
  have hdr := RC.drop_ (n := rest.length + 1) (c := mc) hr rfl 1 (by omega) (by simpa using hmc)
  simp only [List.length_cons] at c0
  simp only [List.drop_succ_cons, List.drop_zero] at hdr
  have hal : Below w.heap.size w (w.alloc (.cells #[] 42)) := (Below.refl _ w).alloc (Nat.le_refl _) _
  clear hsl hr
  by_cases hc1 : mc = 1
  · rw [if_pos hc1] at hdr
    have HRT := Lib.hid hdr
    have hr0 : rest.length = 0 := by omega
    obtain rfl : rest = [] := List.eq_nil_of_length_eq_zero hr0
    subst hc1
    simp only [List.length_nil] at c0
    clear hdr hr0
    go_enter Try.func17, Try.ntmps17
    go_wp2_with (at_builtin; refine wl_app _ rfl (.tmp 18) (.tmp 23) 33 rfl w.heap.size 42 i0 (.slice none 0 0) 1 24 Try.underlying33 hi hz0 hz1 hz2 rfl (by omega) _ _ _ rfl (own_empty w w.heap.size 42 w.heap.size rfl (Nat.le_refl _)) (some ⟨g, 0, none⟩) 0 0 [] rfl rfl (RC.below HRT.out hal) HON.out (by unfold maxLen; omega) (by omega) (by simp) ?_)
    intro v2 w2 hown2 hg2 hat2
    have hb2 : Below w.heap.size w w2 := hal.grown hg2 (by simp) (fun q hq => by simp [Value.ownBlock] at hq; omega)
    have hblk2 := h.blk.kept hb2
    have d0 := hblk2.cell 0
    have dz := hblk2.frozen 0
    simp only [List.getElem?_cons_zero] at d0
    (try simp only [Nat.zero_add, List.nil_append] at hown2)
    obtain ⟨A2, k2, rfl, hk2, -, -⟩ := own_form hown2
    clear hg2 hat2 c0 fz
    go_wp2_with fail
    go_ret2
    exact ⟨_, rfl, ⟨hblk2.set_ 0 _, own_weaken (set_row hown2 hblk2 (by decide)) hbs⟩, (grown_of_below hb2).trans (grown_set w2 gm 0 _), fun b hb => (own_lt hown2 hb).1⟩
  · rw [if_neg hc1] at hdr
    simp only [Option.map_some] at hdr
    rw [add_lit0] at hdr
    have HRT := Lib.hid hdr
    clear hdr
    go_enter Try.func17, Try.ntmps17
    go_wp2_with (at_builtin; refine wl_app _ rfl (.tmp 18) (.tmp 23) 33 rfl w.heap.size 42 i0 (.slice none 0 0) 1 24 Try.underlying33 hi hz0 hz1 hz2 rfl (by omega) _ _ _ rfl (own_empty w w.heap.size 42 w.heap.size rfl (Nat.le_refl _)) (some ⟨g, 1, none⟩) rest.length (mc - 1) rest rfl (by omega) (RC.below HRT.out hal) HON.out (by unfold maxLen; omega) (by omega) (by simp) ?_)
    intro v2 w2 hown2 hg2 hat2
    have hb2 : Below w.heap.size w w2 := hal.grown hg2 (by simp) (fun q hq => by simp [Value.ownBlock] at hq; omega)
    have hblk2 := h.blk.kept hb2
    have d0 := hblk2.cell 0
    have dz := hblk2.frozen 0
    simp only [List.getElem?_cons_zero] at d0
    (try simp only [Nat.zero_add, List.nil_append] at hown2)
    obtain ⟨A2, k2, rfl, hk2, -, -⟩ := own_form hown2
    clear hg2 hat2 c0 fz
    go_wp2_with fail
    go_ret2
    exact ⟨_, rfl, ⟨hblk2.set_ 0 _, own_weaken (set_row hown2 hblk2 (by decide)) hbs⟩, (grown_of_below hb2).trans (grown_set w2 gm 0 _), fun b hb => (own_lt hown2 hb).1⟩
end Go.Proofs.Ytkgkbmiacomhdaa
