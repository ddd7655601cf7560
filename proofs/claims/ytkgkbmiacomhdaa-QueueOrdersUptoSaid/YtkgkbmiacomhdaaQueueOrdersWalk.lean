/- The walk of QueueOrders. -/
import Derived.Test.YtkgkbmiacomhdaaCho
import Derived.Test.YtkgkbmiacomhdaaRowsEq
import Derived.Test.YtkgkbmiacomhdaaQuAlive
import Derived.Test.YtkgkbmiacomhdaaApart
namespace Go.Proofs.Ytkgkbmiacomhdaa
set_option linter.unusedVariables false
set_option linter.unusedSimpArgs false
open Go.RowKit Go.Conc

theorem own_types {w : World} {base base' n n' : Nat} {e e' : TypeId} {v v' : Value} {xs xs' : List Value} (h : w.ownsRow base e 1 v n xs) (h' : w.ownsRow base' e' 1 v' n' xs') (hne : e ≠ e') : ∀ b, v.ownBlock = some b → v'.ownBlock ≠ some b := by
  intro b hb hb'
  rcases h.2 with ⟨rfl, _⟩ | ⟨g, cap, cur, rfl, _, hg, _⟩
  · cases hb
  rcases h'.2 with ⟨rfl, _⟩ | ⟨g', cap', cur', rfl, _, hg', _⟩
  · cases hb'
  simp only [Value.ownBlock, Option.some.injEq] at hb hb'
  subst hb hb'
  rw [hg] at hg'
  injection hg' with hg'
  injection hg' with _ ht
  exact hne ht
theorem Own.row {w w' : World} {base base' n : Nat} {vs : List Value} {xs : List (List UInt8)} {v : Value} {ys : List Value} (h : Own w base vs xs) (hv : w.ownsRow base' 42 1 v n ys) (hg : w.grownBy w' v.ownBlock) : Own w' base vs xs :=
  h.grown hg fun u hu b hb => by
    obtain ⟨j, hj⟩ := List.getElem?_of_mem hu
    obtain ⟨x, _, ho⟩ := h.at_ hj
    exact own_types ho hv (by decide) b hb
theorem rvs_row {w w' : World} {w3 : World} {base n : Nat} {cs ys : List Value} {ps : List (List UInt8)} {v : Value} (h : RVs w3 cs ps) (hc : ChO w3 w') : RVs w' cs ps := h.cho hc
theorem apart_own (base base' n c : Nat) (A : Option Addr) (vs : List Value) (xs : List (List UInt8)) (w : World) (h : Own w base vs xs) (hr : w.ownsRow base' 42 1 (.slice A n c) n vs) (hn : n ≤ 100000) (hl : ∀ x ∈ xs, x.length ≤ 4000000) (hb : base ≤ w.heap.size) :
    Calls Try.prog 25 #[.slice A n c] w fun e w' => e = .returned (.bool true) ∧ Below base w w' := by
  have hnl : vs.length = n := by have := hr.1; omega
  have hv : ∀ k, k < n → vs[k]? = some (vs.getD k undef) := fun k hk => by simp [List.getD, List.getElem?_eq_getElem (show k < vs.length by omega)]
  have hx : ∀ k, k < n → xs[k]? = some (xs.getD k []) := fun k hk => by have := h.len; simp [List.getD, List.getElem?_eq_getElem (show k < xs.length by omega)]
  refine apart_any base n (fun k => vs.getD k undef) (fun k => (xs.getD k []).length) A c w hn (fun k hk => hl _ (List.mem_of_getElem? (hx k hk))) hb (fun k hk => RC.of_own hr k _ (hv k hk)) ⟨fun i j hi hj hij => ?_, fun ad e k hk => ?_⟩ (fun k hk => ⟨_, h.own k _ _ (hv k hk) (hx k hk)⟩)
  · rcases Nat.lt_or_gt_of_ne hij with hlt | hlt
    · exact dis_of (h.dis i j _ _ hlt (hv i hi) (hv j hj))
    · exact dis_of' (h.dis j i _ _ hlt (hv j hj) (hv i hi))
  · subst e
    intro e
    exact own_types hr (h.own k _ _ (hv k hk) (hx k hk)) (by decide) ad.block rfl e.symm

/-- The state of a round: pp: what has been put; pr: what has been taken and what is still there. -/
structure OrdR (w w3 : World) (gq gc size : Nat) (pp pr : List (List UInt8)) (pv gv qv : List Value) (put got : Value) (wx : World) : Prop where
  hput : wx.ownsRow w3.heap.size 42 1 put pp.length pv
  vals : RVs w3 pv pp
  hgot : wx.ownsRow w3.heap.size 42 1 got gv.length gv
  dis : ∀ b, put.ownBlock = some b → got.ownBlock ≠ some b
  own : Own wx w3.heap.size (gv ++ qv) pr
  q : Qc wx gq gc size qv
  room : qv.length ≤ size
  cho : ChO w3 wx
  bel : Below w.heap.size w wx
  ids : w.heap.size ≤ gq ∧ w.heap.size ≤ gc ∧ gq < w3.heap.size ∧ gc < w3.heap.size ∧ w.heap.size ≤ w3.heap.size
theorem OrdR.len {w w3 wx : World} {gq gc size : Nat} {pp pr : List (List UInt8)} {pv gv qv : List Value} {put got : Value} (h : OrdR w w3 gq gc size pp pr pv gv qv put got wx) : gv.length + qv.length = pr.length := by
  have := h.own.len
  rw [List.length_append] at this
  exact this
theorem OrdR.alloc {w w3 wx : World} {gq gc size : Nat} {pp pr : List (List UInt8)} {pv gv qv : List Value} {put got : Value} (h : OrdR w w3 gq gc size pp pr pv gv qv put got wx) (o : Obj) : OrdR w w3 gq gc size pp pr pv gv qv put got (wx.alloc o) :=
  ⟨h.hput.alloc o, h.vals, h.hgot.alloc o, h.dis, h.own.below ((Below.refl _ wx).alloc (Nat.le_refl _) o), h.q.alloc o, h.room, h.cho.trans (ChO.below ((Below.refl _ wx).alloc (Nat.le_refl _) o)), below_al h.bel o, h.ids⟩
theorem ord_put {w w3 wr w5 : World} {gq gc size : Nat} {pp pr : List (List UInt8)} {pv gv qv news : List Value} {put got : Value} {x : List UInt8} (h : OrdR w w3 gq gc size pp pr pv gv qv put got wr)
    (hq : Qc w5 gq gc size (qv ++ news)) (hn : Own w5 wr.heap.size news ([x].take news.length)) (hr : (qv ++ news).length ≤ size) (hg : wr.grownBy w5 (some gc)) :
    OrdR w w3 gq gc size pp (pr ++ [x].take news.length) pv gv (qv ++ news) put got w5 := by
  have hc := ChO.chan h.q.2 hg
  refine ⟨own_cho h.hput hc, h.vals, own_cho h.hgot hc, h.dis, ?_, hq, hr, h.cho.trans hc, h.bel.grown hg (by have := h.bel.size; omega) (fun q hq => by injection hq with hq; have := h.ids; omega), h.ids⟩
  rw [← List.append_assoc]
  exact (h.own.cho hc).append (hn.weaken h.cho.size) (fun u hu v hv b hb hb' => by have := (h.own.lt hu hb).2; have := (hn.lt hv hb').1; omega)
theorem ord_app {w w3 wr w6 : World} {gq gc size : Nat} {pp pr : List (List UInt8)} {pv gv qv : List Value} {put put2 got : Value} {r : Value} {x : List UInt8} (h : OrdR w w3 gq gc size pp pr pv gv qv put got wr)
    (hr : RVs w3 [r] [x]) (hown : w6.ownsRow w3.heap.size 42 1 put2 (pp.length + 1) (pv ++ [r])) (hg : wr.grownBy w6 put.ownBlock) (hat : At wr put put2) :
    OrdR w w3 gq gc size (pp ++ [x]) pr (pv ++ [r]) gv qv put2 got w6 := by
  have hf : ∀ b, put.ownBlock = some b → w3.heap.size ≤ b := fun b hb => (own_lt h.hput hb).1
  refine ⟨by rw [List.length_append]; exact hown, h.vals.append hr, h.hgot.kept hg (dis_of' h.dis), ?_, h.own.row h.hput hg, h.q.fresh hg h.ids.2.2.1 h.ids.2.2.2.1 hf, h.room, h.cho.fresh hg hf, h.bel.grown hg h.bel.size (fun q hq => by have := hf q hq; have := h.ids; omega), h.ids⟩
  intro b hb hb'
  rcases hat with e | e
  · rw [e] at hb; exact h.dis b hb hb'
  · rw [e] at hb
    injection hb with hb
    have := (own_lt h.hgot hb').2
    omega
theorem ord_take {w w3 wr w5 w6 : World} {gq gc size m : Nat} {pp pr : List (List UInt8)} {pv gv qv qv2 ds : List Value} {put got got2 : Value} (h : OrdR w w3 gq gc size pp pr pv gv qv put got wr) (hd : qv = ds ++ qv2)
    (hq : Qc w5 gq gc size qv2) (hc : ChO wr w5) (hb : Below w.heap.size w w5) (hown : w6.ownsRow w3.heap.size 42 1 got2 (gv.length + m) (gv ++ ds)) (hm : ds.length = m) (hg : w5.grownBy w6 got.ownBlock) (hat : At w5 got got2) :
    OrdR w w3 gq gc size pp pr pv (gv ++ ds) qv2 put got2 w6 := by
  subst hm hd
  have hf : ∀ b, got.ownBlock = some b → w3.heap.size ≤ b := fun b hb => (own_lt h.hgot hb).1
  have hput5 := own_cho h.hput hc
  have hgot5 := own_cho h.hgot hc
  refine ⟨hput5.kept hg (dis_of h.dis), h.vals, by rw [List.length_append]; exact hown, ?_, ?_, hq.fresh hg h.ids.2.2.1 h.ids.2.2.2.1 hf, by have := h.room; rw [List.length_append] at this; omega, (h.cho.trans hc).fresh hg hf, hb.grown hg hb.size (fun q hq => by have := hf q hq; have := h.ids; omega), h.ids⟩
  · intro b hb hb'
    rcases hat with e | e
    · rw [e] at hb'; exact h.dis b hb hb'
    · rw [e] at hb'
      injection hb' with hb'
      have := (own_lt hput5 hb).2
      omega
  · rw [List.append_assoc]
    exact (h.own.cho hc).row hgot5 hg
theorem ord_chan {w w3 wr w5 : World} {gq gc size : Nat} {pp pr : List (List UInt8)} {pv gv qv : List Value} {put got : Value} (h : OrdR w w3 gq gc size pp pr pv gv qv put got wr) (hg : wr.grownBy w5 (some gc)) : ChO wr w5 ∧ Below w.heap.size w w5 :=
  ⟨ChO.chan h.q.2 hg, h.bel.grown hg (by have := h.bel.size; omega) (fun q hq => by injection hq with hq; have := h.ids; omega)⟩

set_option maxRecDepth 100000 in
set_option maxHeartbeats 6400000 in
theorem QueueOrders_walk (n : Int) (ps : List (List UInt8)) (A B : Option Addr) (c d m : Nat) (w : World) (hA : RP w A ps) (hB : ∀ j, j < m → ∃ ad x, B = some ad ∧ w.cell? (ad.add j) = some (.bool x))
    (tp : total ps ≤ 1048576) (lp : ps.length ≤ 1048576) (lm : m ≤ 1048576) :
    Calls Try.prog 4 #[.int .i64 n, .slice A ps.length c, .slice B m d] w fun e w' => e = .returned (.bool true) ∧ Below w.heap.size w w' := by
  have HB := Lib.hid hB
  clear hB
  go_enter Try.func4, Try.ntmps4
  go_wp2_with fail
  (with_reducible refine (alive_any w).mono ?_)
  rintro e w1 ⟨rfl, hb1⟩
  have hA1 := hA.below hb1
  by_cases h1 : n < 0
  · go_wp2_with fail
    go_ret
    exact ⟨rfl, hb1⟩
  by_cases h2 : 300 < n
  · go_wp2_with fail
    go_ret
    exact ⟨rfl, hb1⟩
  by_cases h3 : 2000 < ps.length
  · go_wp2_with fail
    go_ret
    exact ⟨rfl, hb1⟩
  have f1 : decide (n < 0) = false := by simp; omega
  have f2 : decide (300 < n) = false := by simp; omega
  have f3 : decide ((2000 : Int) < (ps.length : Int)) = false := by simp; omega
  go_wp2_with fail
  (with_reducible refine (sum_rows ps A c w1 hA1 tp (by omega)).mono ?_)
  rintro e w2 ⟨rfl, rfl⟩
  by_cases h4 : 262144 < total ps
  · go_wp2_with fail
    go_ret
    exact ⟨rfl, hb1⟩
  have f4 : decide ((262144 : Int) < (total ps : Int)) = false := by simp; omega
  obtain ⟨size, rfl⟩ : ∃ size : Nat, n = (size : Int) := ⟨n.toNat, by omega⟩
  have hs300 : size ≤ 300 := by omega
  clear h1 h2
  go_wp2_with fail
  (with_reducible refine (new_good size w2 (by omega)).mono ?_)
  rintro e w3 ⟨rfl, hq3, hb3⟩
  have hbw3 := below_call hb1 hb3
  have hA3 := hA1.below hb3
  have hs1 := hb1.size
  have hs3 := hb3.size
  have hgq := hq3.1.lt
  have hgc := hq3.2.lt
  generalize hgqe : w2.heap.size + 1 = gq at *
  generalize hgce : w2.heap.size = gc at *
  have hids : w.heap.size ≤ gq ∧ w.heap.size ≤ gc ∧ gq < w3.heap.size ∧ gc < w3.heap.size ∧ w.heap.size ≤ w3.heap.size := by have := hbw3.size; omega
  clear hgqe hgce hb3 hb1 hA1
  go_wp2_with fail
  have HR0 : Hid (OrdR w w3 gq gc size [] [] [] [] [] (.slice (some ⟨w3.heap.size, 0, none⟩) 0 0) (.slice (some ⟨w3.heap.size + 1, 0, none⟩) 0 0) ((w3.alloc (.cells #[] 42)).alloc (.cells #[] 42))) := by
    refine ⟨(own_empty w3 w3.heap.size 42 w3.heap.size rfl (Nat.le_refl _)).alloc _, RVs.nil _, own_empty (w3.alloc (.cells #[] 42)) w3.heap.size 42 (w3.heap.size + 1) (by simp) (by simp), ?_, Own.nil _ _, (hq3.alloc _).alloc _, Nat.zero_le _, ?_, below_al (below_al hbw3 _) _, hids⟩
    · intro b hb hb'
      simp [Value.ownBlock] at hb hb'
      omega
    · exact (ChO.below ((Below.refl _ w3).alloc (Nat.le_refl _) _)).trans (ChO.below ((Below.refl _ _).alloc (Nat.le_refl _) _))
  have HB3 : Hid (∀ wx, ChO w3 wx → ∀ j, j < m → ∃ ad x, B = some ad ∧ wx.cell? (ad.add j) = some (.bool x)) := fun wx hc j hj => by
    obtain ⟨ad, x, e, hcell⟩ := HB.out j hj
    exact ⟨ad, x, e, cell_cho (cell_keep hbw3 hcell) hc⟩
  clear HB hq3 hbw3
  obtain ⟨i0, hi, hz0, hz1, hz2⟩ := info_parts info_row
  go_loopw [9, 10, 49] (fun put got i wr => ∃ (k : Nat) (pr : List (List UInt8)) (pv gv qv : List Value), k ≤ ps.length ∧ i = .int .i64 (k : Int) ∧ pr.length ≤ k ∧ Hid (∀ x ∈ pr, x.length ≤ 1048576) ∧ Hid (OrdR w w3 gq gc size pr pr pv gv qv put got wr)) (fun _ _ i _ => ps.length - (intOf i).toNat)
  case atStart => exact ⟨0, [], [], [], [], Nat.zero_le _, rfl, Nat.le_refl _, fun x hx => (by cases hx), HR0⟩
  case round =>
    obtain ⟨k, pr, pv, gv, qv, hk, rfl, hprk, HL, HR⟩ := hrel
    by_cases hlt : k < ps.length
    · have hxm := total_mem (List.getElem_mem hlt)
      obtain ⟨ad, X, cx, rfl, hcell, hcx, hX3⟩ := hA3.at_ k hlt
      have hcw := cell_cho hcell HR.out.cho
      have HRV : Hid (RVs w3 [.slice X ps[k].length cx] [ps[k]]) := by
        refine ⟨rfl, fun j v x hv hx => ?_⟩
        match j, hv, hx with
        | 0, hv, hx => simp at hv hx; subst hv hx; exact ⟨X, cx, rfl, hcx, hX3⟩
      generalize ps[k] = x at *
      obtain ⟨A1, c1, rfl, hc1, -, -⟩ := own_form HR.out.hput
      obtain ⟨A2, c2, rfl, hc2, -, -⟩ := own_form HR.out.hgot
      have hlen := HR.out.len
      have HLEN := Lib.hid hlen
      have hgvle : gv.length ≤ pr.length := by omega
      clear hcell
      have hRX : RP (wr.alloc (.cells #[.slice X x.length cx] 42)) (some ⟨wr.heap.size, 0, none⟩) [x] := rp1 wr 42 X cx x hcx (RC.cho hX3 HR.out.cho) rfl
      go_wp2_with fail
      clear hlen
      (with_reducible refine (put_n gq gc size 1 qv [x] (some ⟨wr.heap.size, 0, none⟩) 1 (wr.alloc (.cells #[.slice X x.length cx] 42)) (HR.out.q.alloc _) HR.out.room (by omega) hRX rfl (by omega) (fun y hy => by simp only [List.mem_singleton] at hy; rw [hy]; omega)).mono ?_)
      rintro e w5 ⟨nv, rfl, news, rfl, hn5, hq5, ho5, hg5⟩
      have hal : Below wr.heap.size wr (wr.alloc (.cells #[.slice X x.length cx] 42)) := (Below.refl _ wr).alloc (Nat.le_refl _) _
      have ho5' : Own w5 wr.heap.size news ([x].take news.length) := ho5.weaken (by simp)
      have hg5' : wr.grownBy w5 (some gc) := (grown_of_below hal).trans hg5
      have hqr : qv.length ≤ size := HR.out.room
      by_cases hroom : qv.length < size
      · have hnl : news.length = 1 := by simp at hn5; omega
        have hone : (news.length : Int) = 1 := by omega
        have hqn : (qv ++ news).length ≤ size := by rw [List.length_append, hnl]; omega
        have HR5 : Hid (OrdR w w3 gq gc size pr (pr ++ [x]) pv gv (qv ++ news) (.slice A1 pr.length c1) (.slice A2 gv.length c2) w5) := by
          have h := ord_put HR.out hq5 ho5' hqn hg5'
          rw [hnl] at h
          exact h
        rw [hone]
        obtain ⟨L, hL⟩ : ∃ L, L = (qv ++ news).length := ⟨_, rfl⟩
        have HLQ : Hid (((qv ++ news).length : Int) = (L : Int)) := by show _ = _; rw [hL]
        have hLs : decide (size < L) = false := by simp; omega
        clear hone hnl hn5 hq5 ho5 hg5 ho5' hg5' hal hRX hL
        go_wp2_with fail
        (with_reducible refine (len_i gq gc size (qv ++ news) (L : Int) w5 HR5.out.q HLQ.out).mono ?_)
        rintro e w6 ⟨rfl, rfl⟩
        have hownp := HR5.out.hput.alloc (.cells #[.slice X x.length cx] 42)
        have hbs6 : w3.heap.size ≤ (w6.alloc (.cells #[.slice X x.length cx] 42)).heap.size := by have := HR5.out.cho.size; simp; omega
        have hone1 : ∀ u ∈ [Value.slice X x.length cx], u.oneCell' = true := fun u hu => by simp only [List.mem_singleton] at hu; rw [hu]; rfl
        go_wp2_with (at_builtin; refine wl_app _ rfl (.tmp 82) (.tmp 84) 33 rfl w3.heap.size 42 i0 (.slice none 0 0) 1 24 Try.underlying33 hi hz0 hz1 hz2 rfl (by omega) _ _ _ rfl hownp (some ⟨w6.heap.size, 0, none⟩) 1 1 [.slice X x.length cx] rfl rfl (rc_new w6 [.slice X x.length cx] 42) hone1 (by unfold maxLen; omega) (by omega) hbs6 ?_)
        intro put2 w7 hown7 hg7 hat7
        have HR6 : Hid (OrdR w w3 gq gc size (pr ++ [x]) (pr ++ [x]) (pv ++ [.slice X x.length cx]) gv (qv ++ news) put2 (.slice A2 gv.length c2) w7) := ord_app (HR5.out.alloc _) HRV.out hown7 hg7 hat7
        have HL2 : Hid (∀ y ∈ pr ++ [x], y.length ≤ 1048576) := fun y hy => by
          rcases List.mem_append.1 hy with h | h
          · exact HL.out y h
          · simp only [List.mem_singleton] at h; rw [h]; omega
        have hpl : (pr ++ [x]).length ≤ k + 1 := by rw [List.length_append]; simp; omega
        obtain ⟨A6, c6, rfl, hc6, -, -⟩ := own_form HR6.out.hput
        clear hown7 hg7 hat7 hone1 hbs6 hownp HR5 HR HL HLEN hgvle hprk HLQ hLs HRV
        generalize pr ++ [x] = pr2 at *
        generalize pv ++ [.slice X x.length cx] = pv2 at *
        generalize qv ++ news = qv2 at *
        have hlen2 := HR6.out.len
        have hgle2 : gv.length ≤ pr2.length := by omega
        have hgd : decide (pr2.length < gv.length) = false := by simp; omega
        have HLEN2 := Lib.hid hlen2
        clear hlen2
        by_cases hgm : k < m
        · have hkm : decide (k < m) = true := by simp; omega
          obtain ⟨bd, bx, rfl, hbc⟩ := HB3.out _ HR6.out.cho k hgm
          cases bx with
          | false =>
            go_wp2_with fail
            go_roundw
            case rel => exact ⟨k + 1, pr2, pv2, gv, qv2, by omega, by go_num, hpl, HL2, HR6⟩
            case measure => simp [intOf]; omega
          | true =>
            cases qv2 with
            | nil =>
              go_wp2_with fail
              (with_reducible refine (get_none gq gc size w7 HR6.out.q).mono ?_)
              rintro e w8 ⟨rfl, rfl⟩
              go_wp2_with fail
              go_roundw
              case rel => exact ⟨k + 1, pr2, pv2, gv, [], by omega, by go_num, hpl, HL2, HR6⟩
              case measure => simp [intOf]; omega
            | cons v rest =>
              obtain ⟨vA, vn, vc, rfl⟩ := HR6.out.own.sl v (by simp)
              go_wp2_with fail
              (with_reducible refine (get_some gq gc size (.slice vA vn vc) rest w7 HR6.out.q).mono ?_)
              rintro e w8 ⟨rfl, hq8, hg8⟩
              obtain ⟨hc8, hb8⟩ := ord_chan HR6.out hg8
              have hown8 := (own_cho HR6.out.hgot hc8).alloc (.cells #[.slice vA vn vc] 42)
              have hbs8 : w3.heap.size ≤ (w8.alloc (.cells #[.slice vA vn vc] 42)).heap.size := by have := HR6.out.cho.size; have := hc8.size; simp; omega
              have hone8 : ∀ u ∈ [Value.slice vA vn vc], u.oneCell' = true := fun u hu => by simp only [List.mem_singleton] at hu; rw [hu]; rfl
              clear hbc
              go_wp2_with (at_builtin; refine wl_app _ rfl (.tmp 102) (.tmp 104) 33 rfl w3.heap.size 42 i0 (.slice none 0 0) 1 24 Try.underlying33 hi hz0 hz1 hz2 rfl (by omega) _ _ _ rfl hown8 (some ⟨w8.heap.size, 0, none⟩) 1 1 [.slice vA vn vc] rfl rfl (rc_new w8 [.slice vA vn vc] 42) hone8 (by unfold maxLen; omega) (by omega) hbs8 ?_)
              intro got2 w9 hown9 hg9 hat9
              have HR9 : Hid (OrdR w w3 gq gc size pr2 pr2 pv2 (gv ++ [.slice vA vn vc]) rest (.slice A6 pr2.length c6) got2 w9) :=
                ord_take HR6.out rfl (hq8.alloc _) (hc8.trans (ChO.below ((Below.refl _ w8).alloc (Nat.le_refl _) _))) (below_al hb8 _) hown9 rfl hg9 hat9
              obtain ⟨A9, c9, rfl, hc9, -, -⟩ := own_form HR9.out.hgot
              have hgd9 : decide (pr2.length < (gv ++ [Value.slice vA vn vc]).length) = false := by have := HR9.out.len; simp only [decide_eq_false_iff_not]; omega
              clear hown9 hg9 hat9 hone8 hbs8 hown8 hq8 hg8 hgd
              obtain ⟨gv2, hgv2⟩ : ∃ gv2, gv2 = gv ++ [Value.slice vA vn vc] := ⟨_, rfl⟩
              rw [← hgv2] at HR9 hgd9 hc9 ⊢
              clear hgv2
              go_wp2_with fail
              go_roundw
              case rel => exact ⟨k + 1, pr2, pv2, gv2, rest, by omega, by go_num, hpl, HL2, HR9⟩
              case measure => simp [intOf]; omega
        · have hkm : decide (k < m) = false := by simp; omega
          go_wp2_with fail
          go_roundw
          case rel => exact ⟨k + 1, pr2, pv2, gv, qv2, by omega, by go_num, hpl, HL2, HR6⟩
          case measure => simp [intOf]; omega
      · have hnl : news.length = 0 := by simp at hn5; omega
        have hone : (news.length : Int) = 0 := by omega
        obtain rfl : news = [] := List.eq_nil_of_length_eq_zero hnl
        have HR6 : Hid (OrdR w w3 gq gc size pr pr pv gv qv (.slice A1 pr.length c1) (.slice A2 gv.length c2) w5) := by
          have h := ord_put HR.out hq5 ho5' (by simpa using hqr) hg5'
          rw [List.append_nil, List.length_nil, List.take_zero, List.append_nil] at h
          exact h
        rw [hone]
        obtain ⟨L, hL⟩ : ∃ L, L = qv.length := ⟨_, rfl⟩
        have HLQ : Hid ((qv.length : Int) = (L : Int)) := by show _ = _; rw [hL]
        have hLs : decide (size < L) = false := by simp; omega
        have hLn : ((L : Int) != (size : Int)) = false := by simp; omega
        have HL2 := HL
        have hpl : pr.length ≤ k + 1 := by omega
        clear hone hnl hn5 hq5 ho5 hg5 ho5' hg5' hal hRX hL HR HLEN hprk HL HRV
        go_wp2_with fail
        (with_reducible refine (len_i gq gc size qv (L : Int) w5 HR6.out.q HLQ.out).mono ?_)
        rintro e w6 ⟨rfl, rfl⟩
        go_wp2_with fail
        (with_reducible refine (len_i gq gc size qv (L : Int) w6 HR6.out.q HLQ.out).mono ?_)
        rintro e w7 ⟨rfl, rfl⟩
        clear HLQ hLn hroom
        generalize A1 = A6 at *
        generalize c1 = c6 at *
        generalize pr = pr2 at *
        generalize pv = pv2 at *
        generalize qv = qv2 at *
        have hlen2 := HR6.out.len
        have hgle2 : gv.length ≤ pr2.length := by omega
        have hgd : decide (pr2.length < gv.length) = false := by simp; omega
        have HLEN2 := Lib.hid hlen2
        clear hlen2
        by_cases hgm : k < m
        · have hkm : decide (k < m) = true := by simp; omega
          obtain ⟨bd, bx, rfl, hbc⟩ := HB3.out _ HR6.out.cho k hgm
          cases bx with
          | false =>
            go_wp2_with fail
            go_roundw
            case rel => exact ⟨k + 1, pr2, pv2, gv, qv2, by omega, by go_num, hpl, HL2, HR6⟩
            case measure => simp [intOf]; omega
          | true =>
            cases qv2 with
            | nil =>
              go_wp2_with fail
              (with_reducible refine (get_none gq gc size w7 HR6.out.q).mono ?_)
              rintro e w8 ⟨rfl, rfl⟩
              go_wp2_with fail
              go_roundw
              case rel => exact ⟨k + 1, pr2, pv2, gv, [], by omega, by go_num, hpl, HL2, HR6⟩
              case measure => simp [intOf]; omega
            | cons v rest =>
              obtain ⟨vA, vn, vc, rfl⟩ := HR6.out.own.sl v (by simp)
              go_wp2_with fail
              (with_reducible refine (get_some gq gc size (.slice vA vn vc) rest w7 HR6.out.q).mono ?_)
              rintro e w8 ⟨rfl, hq8, hg8⟩
              obtain ⟨hc8, hb8⟩ := ord_chan HR6.out hg8
              have hown8 := (own_cho HR6.out.hgot hc8).alloc (.cells #[.slice vA vn vc] 42)
              have hbs8 : w3.heap.size ≤ (w8.alloc (.cells #[.slice vA vn vc] 42)).heap.size := by have := HR6.out.cho.size; have := hc8.size; simp; omega
              have hone8 : ∀ u ∈ [Value.slice vA vn vc], u.oneCell' = true := fun u hu => by simp only [List.mem_singleton] at hu; rw [hu]; rfl
              clear hbc
              go_wp2_with (at_builtin; refine wl_app _ rfl (.tmp 102) (.tmp 104) 33 rfl w3.heap.size 42 i0 (.slice none 0 0) 1 24 Try.underlying33 hi hz0 hz1 hz2 rfl (by omega) _ _ _ rfl hown8 (some ⟨w8.heap.size, 0, none⟩) 1 1 [.slice vA vn vc] rfl rfl (rc_new w8 [.slice vA vn vc] 42) hone8 (by unfold maxLen; omega) (by omega) hbs8 ?_)
              intro got2 w9 hown9 hg9 hat9
              have HR9 : Hid (OrdR w w3 gq gc size pr2 pr2 pv2 (gv ++ [.slice vA vn vc]) rest (.slice A6 pr2.length c6) got2 w9) :=
                ord_take HR6.out rfl (hq8.alloc _) (hc8.trans (ChO.below ((Below.refl _ w8).alloc (Nat.le_refl _) _))) (below_al hb8 _) hown9 rfl hg9 hat9
              obtain ⟨A9, c9, rfl, hc9, -, -⟩ := own_form HR9.out.hgot
              have hgd9 : decide (pr2.length < (gv ++ [Value.slice vA vn vc]).length) = false := by have := HR9.out.len; simp only [decide_eq_false_iff_not]; omega
              clear hown9 hg9 hat9 hone8 hbs8 hown8 hq8 hg8 hgd
              obtain ⟨gv2, hgv2⟩ : ∃ gv2, gv2 = gv ++ [Value.slice vA vn vc] := ⟨_, rfl⟩
              rw [← hgv2] at HR9 hgd9 hc9 ⊢
              clear hgv2
              go_wp2_with fail
              go_roundw
              case rel => exact ⟨k + 1, pr2, pv2, gv2, rest, by omega, by go_num, hpl, HL2, HR9⟩
              case measure => simp [intOf]; omega
        · have hkm : decide (k < m) = false := by simp; omega
          go_wp2_with fail
          go_roundw
          case rel => exact ⟨k + 1, pr2, pv2, gv, qv2, by omega, by go_num, hpl, HL2, HR6⟩
          case measure => simp [intOf]; omega
    · obtain rfl : k = ps.length := by omega
      obtain ⟨A1, c1, rfl, hc1, -, -⟩ := own_form HR.out.hput
      obtain ⟨A2, c2, rfl, hc2, -, -⟩ := own_form HR.out.hgot
      have hlen := HR.out.len
      have HLEN := Lib.hid hlen
      have hql : qv.length ≤ 300 := by have := HR.out.room; omega
      have hgl : gv.length ≤ 2000 := by omega
      clear hlen
      go_wp2_with fail
      (with_reducible refine (drain_any gq gc size qv wr HR.out.q (fun v hv => HR.out.own.sl v (List.mem_append_right _ hv)) (by omega)).mono ?_)
      rintro e w5 ⟨v, rfl, hown5, hq5, hg5⟩
      obtain ⟨hc5, hb5⟩ := ord_chan HR.out hg5
      obtain ⟨A5, c5, rfl, hcc5, hr5, -⟩ := own_form hown5
      have hgot5 := own_cho HR.out.hgot hc5
      have hbs5 : w3.heap.size ≤ w5.heap.size := by have := HR.out.cho.size; have := hc5.size; omega
      have hone5 : ∀ u ∈ qv, u.oneCell' = true := sl_one fun v hv => HR.out.own.sl v (List.mem_append_right _ hv)
      go_wp2_with (at_builtin; refine wl_app _ rfl (.tmp 112) (.tmp 114) 33 rfl w3.heap.size 42 i0 (.slice none 0 0) 1 24 Try.underlying33 hi hz0 hz1 hz2 rfl (by omega) _ _ _ rfl hgot5 A5 qv.length c5 qv rfl (by omega) hr5 hone5 (by unfold maxLen; omega) (by omega) hbs5 ?_)
      intro got2 w6 hown6 hg6 hat6
      have hR6 := ord_take HR.out (qv2 := []) (ds := qv) (by simp) hq5 hc5 hb5 hown6 rfl hg6 hat6
      obtain ⟨A9, c9, rfl, hc9, hr9, -⟩ := own_form hR6.hgot
      have hown9 : Own w6 w3.heap.size (gv ++ qv) pr := by have := hR6.own; rw [List.append_nil] at this; exact this
      have HLN : Hid ((gv ++ qv).length = pr.length) := hown9.len
      have hP9 : RP w6 A9 pr := hown9.vals.rp hr9
      have hP1 : RP w6 A1 pr := (hR6.vals.cho hR6.cho).rp (RC.of_own hR6.hput)
      have hq6 := hR6.q
      have hb6 := hR6.bel
      have hrow9 : w6.ownsRow w3.heap.size 42 1 (.slice A9 pr.length c9) pr.length (gv ++ qv) := by have := hR6.hgot; rw [HLN.out] at this; exact this
      have hcs6 := hR6.cho.size
      have HL1 := HL
      rw [HLN.out]
      clear hown6 hg6 hat6 hone5 hbs5 hgot5 hq5 hg5 hr5 hown5 HR hr9 hR6
      go_wp2_with fail
      (with_reducible refine (rows_any pr pr A9 A1 c9 c1 w6 hP9 hP1 (by omega)).mono ?_)
      rintro e w7 ⟨rfl, q, rfl⟩
      simp only [decide_true]
      have hq7 : Qc (w6.drewN q) gq gc size [] := hq6
      go_wp2_with fail
      (with_reducible refine (len_i gq gc size [] 0 _ hq7 rfl).mono ?_)
      rintro e w8 ⟨rfl, rfl⟩
      have hown9' : Own (w6.drewN q) w3.heap.size (gv ++ qv) pr := hown9.below ⟨rfl, rfl, rfl, Nat.le_refl _, fun _ _ => rfl⟩
      have hcs7 : w3.heap.size ≤ (w6.drewN q).heap.size := hcs6
      have hrow9' : (w6.drewN q).ownsRow w3.heap.size 42 1 (.slice A9 pr.length c9) pr.length (gv ++ qv) := hrow9
      go_wp2_with fail
      (with_reducible refine (apart_own w3.heap.size w3.heap.size pr.length c9 A9 (gv ++ qv) pr (w6.drewN q) hown9' hrow9' (by omega) (fun x hx => by have := HL1.out x hx; omega) hcs7).mono ?_)
      rintro e w9 ⟨rfl, hb9⟩
      go_wp2_with fail
      go_ret
      exact ⟨rfl, (below_drewN hb6 q).trans (hb9.mono hids.2.2.2.2)⟩
theorem QueueOrdersX_walk (x0 : Int) (x1 : List (List UInt8)) (A1 : Option Addr) (c1 : Nat) (x2 : Nat) (A2 : Option Addr) (c2 : Nat) (w : World) (u0 : (Lit.int .i64 x0).wf = true) (l1 : x1.length ≤ c1) (y1 : RP w A1 x1) (n1 : total x1 + c1 + 1 ≤ 1048576)
    (l2 : x2 ≤ c2) (y2 : ∀ j, j < x2 → ∃ ad x, A2 = some ad ∧ w.cell? (ad.add j) = some (.bool x)) (n2 : c2 + 1 ≤ 1048576) :
    Calls Try.prog 4 #[.int .i64 x0, .slice A1 x1.length c1, .slice A2 x2 c2] w fun e w' => e = .returned (.bool true) ∧ Below w.heap.size w w' :=
  QueueOrders_walk x0 x1 A1 A2 c1 c2 x2 w y1 y2 (by omega) (by omega) (by omega)
end Go.Proofs.Ytkgkbmiacomhdaa
