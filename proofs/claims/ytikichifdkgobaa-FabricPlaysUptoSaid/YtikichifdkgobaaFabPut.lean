/- The walk of the fabric's put. -/
import Derived.Test.YtikichifdkgobaaFab
import Derived.Deep.RegionLaw
namespace Go.Proofs.Ytikichifdkgobaa
set_option linter.unusedVariables false
set_option linter.unusedSimpArgs false
open Go.RowKit

theorem rb_set {w : World} {A : Option Addr} {xs : List UInt8} {g i n c : Nat} {t : TypeId} {fA : Option Addr} {k : Int} {u : Value} (h : RB w A xs) (hb : Blk w g t [.slice fA n c, .int .i64 k]) : RB (w.setCell ⟨g, i, none⟩ u) A xs := fun j v hv => by
  obtain ⟨ad, e, hc⟩ := h j v hv
  obtain ⟨y, _, rfl⟩ := List.mem_map.1 (List.mem_of_getElem? hv)
  refine ⟨ad, e, ?_⟩
  have hne : (ad.add j).block ≠ g := by
    generalize ad.add j = p at *
    obtain ⟨b, off, x⟩ := p
    rintro rfl
    cases x with
    | none =>
      have := hb.cell off
      rw [hc] at this
      match off, this with
      | 0, h => simp [bv] at h
      | 1, h => simp [bv] at h
      | off + 2, h => simp at h
    | some f => unfold Blk at hb; simp [World.cell?, hb] at hc
  rw [(grown_set w g i u).cell_far (ad.add j) (World.block_lt_of_cell? w _ hc) (by intro e; injection e with e; exact hne e)]
  exact hc
theorem Ows.set {w : World} {base g i : Nat} {t : TypeId} {vs cs : List Value} {xs : List (List UInt8)} {u : Value} (h : Ows w base vs xs) (hb : Blk w g t cs) (hne : 5 ≠ t) : Ows (w.setCell ⟨g, i, none⟩ u) base vs xs :=
  ⟨h.len, fun j v x hv hx => set_row (h.own j v x hv hx) hb hne⟩
theorem info_lt : (Try.prog.info? 37).map (fun i => (i.zero, i.size, i.bytes)) = some (some (.agg #[.int .i64 0, .int .i64 0, .int .i64 0, .bool false, .slice none 0 0]), 5, 56) := by kernel_rfl
set_option maxHeartbeats 400000 in
theorem put_nil (h : Lh) (v : Value) (w : World) : Calls Try.prog 34 #[.pointer none, ltv h v] w fun e w' => e = .returned (.tuple #[.int .i64 0, er 5]) ∧ Below w.heap.size w w' := by
  go_enter Try.func34, Try.ntmps34
  go_wp2
  go_ret2
  exact ⟨rfl, (Below.refl _ w).alloc (Nat.le_refl _) _⟩
set_option maxHeartbeats 400000 in
theorem put_full (base gf : Nat) (last : Int) (fl : Value) (l : List (Lh × Value)) (xs : List (List UInt8)) (h : Lh) (v : Value) (w : World) (hF : Fb w base gf last fl l xs) (hl : l.length = 4096) :
    Calls Try.prog 34 #[.pointer (some ⟨gf, 0, none⟩), ltv h v] w fun e w' => e = .returned (.tuple #[.int .i64 0, er 5]) ∧ Below w.heap.size w w' := by
  have c0 := hF.blk.cell 0
  have hgl := hF.blk.lt
  simp only [List.getElem?_cons_zero] at c0
  obtain ⟨A, c, rfl, -, -, -⟩ := own_formS hF.own
  rw [hl] at c0
  go_enter Try.func34, Try.ntmps34
  go_wp2
  go_ret2
  exact ⟨rfl, (Below.refl _ w).alloc (Nat.le_refl _) _⟩

/-- What a put leaves. -/
def FPut (w : World) (base gf gb : Nat) (last : Int) (fl : Value) (l : List (Lh × Value)) (xs : List (List UInt8)) (h : Lh) (bs_ : List UInt8) (A2 : Option Addr) (n c2 : Nat) (wx : World) : Prop :=
  ∃ fl2, Fb wx base gf (last + 1) fl2 (l ++ [(⟨last + 1, h.src, h.dst, h.ctl⟩, .slice A2 n c2)]) (xs ++ [bs_]) ∧ wx.ownsRow w.heap.size 5 1 (.slice A2 n c2) n (bs_.map bv) ∧
      Chg w wx (fun b => b = gf ∨ fl.ownBlock = some b) ∧ (fl2.ownBlock = fl.ownBlock ∨ ∃ b, fl2.ownBlock = some b ∧ w.heap.size ≤ b) ∧ wx.cell? ⟨gb, 0, none⟩ = some (.int .i64 (last + 1))
def PutQ (w : World) (base gf : Nat) (last : Int) (fl : Value) (l : List (Lh × Value)) (xs : List (List UInt8)) (h : Lh) (bs_ : List UInt8) (n : Nat) (wx : World) : Prop := ∃ gb A2 c2, n ≤ c2 ∧ FPut w base gf gb last fl l xs h bs_ A2 n c2 wx
theorem fput_step {w w6 w7 w8 : World} {base gf gb : Nat} {last : Int} {fl fl2 : Value} {l : List (Lh × Value)} {xs : List (List UInt8)} {h : Lh} {bs_ : List UInt8} {A2 : Option Addr} {n c2 : Nat} {c0 : List Value} (hbs : base ≤ w.heap.size) (hn : bs_.length = n) (hgb : w.heap.size = gb) (hgf : gf < w.heap.size)
    (hch : Chg w w6 (fun b => b = gf ∨ fl.ownBlock = some b)) (h67 : Below w6.heap.size w6 w7) (hF : Blk w6 gf 69 [fl, .int .i64 (last + 1)]) (hX : Blk w6 gb 37 ((.int .i64 (last + 1)) :: c0)) (hlo : w7.ownsRow base 37 5 fl l.length (lcs l)) (hflt : ∀ b, fl.ownBlock = some b → b < w.heap.size)
    (hrows : Ows w6 base (l.map (·.2)) xs) (hown : w6.ownsRow w.heap.size 5 1 (.slice A2 n c2) n (bs_.map bv)) (hg8 : w7.grownBy w8 fl.ownBlock)
    (hown8 : w8.ownsRow base 37 5 fl2 (l.length + 1) (lcs l ++ ltc ⟨last + 1, h.src, h.dst, h.ctl⟩ (.slice A2 n c2))) (hat : At w7 fl fl2) : FPut w base gf gb last fl l xs h bs_ A2 n c2 (w8.setCell ⟨gf, 0, none⟩ fl2) := by
  subst hn
  have hws := hch.2.2.2.1
  have h7s := h67.size
  have hF7 := hF.kept h67
  have hF8 : Blk w8 gf 69 [fl, .int .i64 (last + 1)] := hF7.grown hg8 (fun e => own_blk_ne hlo hF7 (by decide) gf e.symm rfl)
  have hX8 : Blk w8 gb 37 ((.int .i64 (last + 1)) :: c0) := (hX.kept h67).grown hg8 (fun e => by have := hflt gb e.symm; omega)
  have hr7 := hrows.below h67
  have hr8 : Ows w8 base (l.map (·.2)) xs := hr7.chg (Chg.of hg8 (S := fun b => fl.ownBlock = some b) (fun b hb => hb)) (fun v hv b hb e => by
    obtain ⟨x, ho⟩ := hr7.mem hv
    exact own_not_types ho hlo (by decide) b hb e)
  have ho7 := own_below hown h67
  have ho8 : w8.ownsRow w.heap.size 5 1 (.slice A2 bs_.length c2) bs_.length (bs_.map bv) := (Chg.of hg8 (S := fun b => fl.ownBlock = some b) (fun b hb => hb)).row ho7 (fun b hb e => own_not_types ho7 hlo (by decide) b hb e)
  have ho9 := set_row (i := 0) (u := fl2) ho8 hF8 (by decide)
  refine ⟨fl2, ⟨hF8.set_ 0 fl2, ?_, ?_⟩, ho9, ?_, ?_, ?_⟩
  · have e1 : lcs (l ++ [(⟨last + 1, h.src, h.dst, h.ctl⟩, .slice A2 bs_.length c2)]) = lcs l ++ ltc ⟨last + 1, h.src, h.dst, h.ctl⟩ (.slice A2 bs_.length c2) := by rw [lcs_append]; simp [lcs]
    rw [e1, List.length_append]
    exact set_row hown8 hF8 (by decide)
  · rw [List.map_append]
    exact (hr8.set hF8 (by decide)).append (Ows.one (own_weaken ho9 hbs))
  · exact ((hch.trans (Chg.of_below h67)).fresh hg8 (fun b hb _ => .inr hb)).fresh (grown_set w8 gf 0 fl2) (fun b hb _ => by injection hb with hb; exact .inl hb.symm)
  · rcases hat with e | e
    · exact .inl e
    · exact .inr ⟨_, e, by omega⟩
  · have := (hX8.far (p := ⟨gf, 0, none⟩) (by simp; omega) fl2).cell 0
    simpa using this
set_option maxRecDepth 100000 in
set_option maxHeartbeats 3200000 in
theorem put_any (base gf : Nat) (last : Int) (fl : Value) (l : List (Lh × Value)) (xs : List (List UInt8)) (h : Lh) (bs_ : List UInt8) (A : Option Addr) (n c : Nat) (w : World) (hF : Fb w base gf last fl l xs) (hbs : base ≤ w.heap.size) (hl : l.length < 4096) (hla : 0 ≤ last ∧ last ≤ 1000000)
    (hn : bs_.length = n) (hA : RB w A bs_) (hc : n ≤ c) (hnl : n ≤ 4000000) :
    Calls Try.prog 34 #[.pointer (some ⟨gf, 0, none⟩), ltv h (.slice A n c)] w fun e w' => e = .returned (.tuple #[.int .i64 (last + 1), .nilIface]) ∧ PutQ w base gf last fl l xs h bs_ n w' := by
  obtain ⟨i0, hi, hz0, hz1, hz2⟩ := info_parts info_lt
  obtain ⟨id, src, dst, ctl⟩ := h
  have HN := Lib.hid hn
  clear hn
  have c0 := hF.blk.cell 0
  have c1 := hF.blk.cell 1
  have z1 := hF.blk.frozen 1
  have hgl := hF.blk.lt
  simp only [List.getElem?_cons_zero, List.getElem?_cons_succ] at c0 c1
  obtain ⟨fA, fc, rfl, hfc, hfl5, hfn⟩ := own_formS hF.own
  have hal : Below (w.setCell ⟨gf, 1, none⟩ (.int .i64 (last + 1))).heap.size (w.setCell ⟨gf, 1, none⟩ (.int .i64 (last + 1))) ((w.setCell ⟨gf, 1, none⟩ (.int .i64 (last + 1))).alloc (.cells #[.int .i64 id, .int .i64 src, .int .i64 dst, .bool ctl, .slice A n c] 37)) := (Below.refl _ _).alloc (Nat.le_refl _) _
  have hF1 : Blk ((w.setCell ⟨gf, 1, none⟩ (.int .i64 (last + 1))).alloc (.cells #[.int .i64 id, .int .i64 src, .int .i64 dst, .bool ctl, .slice A n c] 37)) gf 69 [.slice fA l.length fc, .int .i64 (last + 1)] := (hF.blk.set_ 1 _).alloc _
  have hX1 : Blk ((w.setCell ⟨gf, 1, none⟩ (.int .i64 (last + 1))).alloc (.cells #[.int .i64 id, .int .i64 src, .int .i64 dst, .bool ctl, .slice A n c] 37)) w.heap.size 37 [.int .i64 id, .int .i64 src, .int .i64 dst, .bool ctl, .slice A n c] := blk_new (by simp [World.setCell])
  have hc1 : Chg w ((w.setCell ⟨gf, 1, none⟩ (.int .i64 (last + 1))).alloc (.cells #[.int .i64 id, .int .i64 src, .int .i64 dst, .bool ctl, .slice A n c] 37)) (fun b => b = gf ∨ (Value.slice fA l.length fc).ownBlock = some b) :=
    (Chg.of (grown_set w gf 1 _) (fun b hb => by injection hb with hb; exact .inl hb.symm)).trans (Chg.of_below hal)
  have hown1 : ((w.setCell ⟨gf, 1, none⟩ (.int .i64 (last + 1))).alloc (.cells #[.int .i64 id, .int .i64 src, .int .i64 dst, .bool ctl, .slice A n c] 37)).ownsRow base 37 5 (.slice fA l.length fc) l.length (lcs l) := (set_row hF.own hF.blk (by decide)).alloc _
  have hA1 : RB ((w.setCell ⟨gf, 1, none⟩ (.int .i64 (last + 1))).alloc (.cells #[.int .i64 id, .int .i64 src, .int .i64 dst, .bool ctl, .slice A n c] 37)) A bs_ := (rb_set hA hF.blk).below hal
  have hrows1 : Ows ((w.setCell ⟨gf, 1, none⟩ (.int .i64 (last + 1))).alloc (.cells #[.int .i64 id, .int .i64 src, .int .i64 dst, .bool ctl, .slice A n c] 37)) base (l.map (·.2)) xs := (hF.rows.set hF.blk (by decide)).below hal
  have hlf : decide ((4096 : Int) ≤ (l.length : Int)) = false := by simp; omega
  go_enter Try.func34, Try.ntmps34
  go_wp2_with fail
  generalize ((w.setCell ⟨gf, 1, none⟩ (.int .i64 (last + 1))).alloc (.cells #[.int .i64 id, .int .i64 src, .int .i64 dst, .bool ctl, .slice A n c] 37)) = wa at *
  (with_reducible refine (own_any ⟨id, src, dst, ctl⟩ bs_ A n c wa HN.out hA1 hc hnl).mono ?_)
  rintro e w2 ⟨A2, c2, rfl, hc2, hown2, hb2⟩
  have hF2 := hF1.kept hb2
  have hX2 := hX1.kept hb2
  have hlo2 := own_below hown1 hb2
  have hrows2 := hrows1.below hb2
  have hch2 := hc1.trans (Chg.of_below hb2)
  obtain ⟨x0, x1, x2, x3, x4⟩ := blk5l hX2
  obtain ⟨f0, f1, f2, f3, f4⟩ := frz5l hX2
  have d0 := hF2.cell 0
  have d1 := hF2.cell 1
  have y0 := hF2.frozen 0
  simp only [List.getElem?_cons_zero, List.getElem?_cons_succ] at d0 d1
  have hgl2 := hF2.lt
  have hxl2 := hX2.lt
  clear hF1 hX1 hown1 hrows1 hA1 hal
  go_upto_region 6 with (fail)
  have hg6 : w2.grownBy ((((((w2.setCell ⟨w.heap.size, 0, none⟩ (.int .i64 id)).setCell ⟨w.heap.size, 1, none⟩ (.int .i64 src)).setCell ⟨w.heap.size, 2, none⟩ (.int .i64 dst)).setCell ⟨w.heap.size, 3, none⟩ (.bool ctl)).setCell ⟨w.heap.size, 4, none⟩ (.slice A2 n c2)).setCell ⟨w.heap.size, 0, none⟩ (.int .i64 (last + 1))) (some w.heap.size) :=
    ((((grown_set w2 w.heap.size 0 _).trans (grown_set _ w.heap.size 1 _)).trans (grown_set _ w.heap.size 2 _)).trans (grown_set _ w.heap.size 3 _)).trans ((grown_set _ w.heap.size 4 _).trans (grown_set _ w.heap.size 0 _))
  have hX6 : Blk ((((((w2.setCell ⟨w.heap.size, 0, none⟩ (.int .i64 id)).setCell ⟨w.heap.size, 1, none⟩ (.int .i64 src)).setCell ⟨w.heap.size, 2, none⟩ (.int .i64 dst)).setCell ⟨w.heap.size, 3, none⟩ (.bool ctl)).setCell ⟨w.heap.size, 4, none⟩ (.slice A2 n c2)).setCell ⟨w.heap.size, 0, none⟩ (.int .i64 (last + 1))) w.heap.size 37 [.int .i64 (last + 1), .int .i64 src, .int .i64 dst, .bool ctl, .slice A2 n c2] := by
    have h := (((((hX2.set_ 0 (.int .i64 id)).set_ 1 (.int .i64 src)).set_ 2 (.int .i64 dst)).set_ 3 (.bool ctl)).set_ 4 (.slice A2 n c2)).set_ 0 (.int .i64 (last + 1))
    simpa using h
  generalize (((((w2.setCell ⟨w.heap.size, 0, none⟩ (.int .i64 id)).setCell ⟨w.heap.size, 1, none⟩ (.int .i64 src)).setCell ⟨w.heap.size, 2, none⟩ (.int .i64 dst)).setCell ⟨w.heap.size, 3, none⟩ (.bool ctl)).setCell ⟨w.heap.size, 4, none⟩ (.slice A2 n c2)).setCell ⟨w.heap.size, 0, none⟩ (.int .i64 (last + 1)) = w6 at *
  have hflt : ∀ b, (Value.slice fA l.length fc).ownBlock = some b → b < w.heap.size := fun b hb => (own_lt hF.own hb).2
  have hF6 := hF2.grown hg6 (by simp; omega)
  have hlo6 : w6.ownsRow base 37 5 (.slice fA l.length fc) l.length (lcs l) := hlo2.kept hg6 (by
    cases hb : (Value.slice fA l.length fc).ownBlock with
    | none => exact .inl rfl
    | some b => exact .inr (by have := hflt b hb; simp; omega))
  have hrows6 : Ows w6 base (l.map (·.2)) xs := hrows2.chg (Chg.of hg6 (S := fun b => w.heap.size = b) (fun b hb => by injection hb)) (fun v hv b hb e => by
    obtain ⟨x, ho⟩ := hrows2.mem hv
    exact own_blk_ne ho hX2 (by decide) b hb e.symm)
  have hch6 : Chg w w6 (fun b => b = gf ∨ (Value.slice fA l.length fc).ownBlock = some b) := hch2.fresh hg6 (fun b hb hlt => by injection hb with hb; omega)
  have hws := hc1.2.2.2.1
  have hown6 : w6.ownsRow w.heap.size 5 1 (.slice A2 n c2) n (bs_.map bv) := own_weaken ((Chg.of hg6 (S := fun b => w.heap.size = b) (fun b hb => by injection hb)).row hown2 (fun b hb e => own_blk_ne hown2 hX2 (by decide) b hb e.symm)) hws
  obtain ⟨x0, x1, x2, x3, x4⟩ := blk5l hX6
  have d0 := hF6.cell 0
  have y0 := hF6.frozen 0
  simp only [List.getElem?_cons_zero, List.getElem?_cons_succ] at d0
  have HFLT := Lib.hid hflt
  have hgl6 := hF6.lt
  have hw6 := hch6.2.2.2.1
  have hal6 : Below w6.heap.size w6 (w6.alloc (.cells #[.int .i64 (last + 1), .int .i64 src, .int .i64 dst, .bool ctl, .slice A2 n c2] 37)).drew := Below.drew ((Below.refl _ w6).alloc (Nat.le_refl _) _)
  have hlo7 : (w6.alloc (.cells #[.int .i64 (last + 1), .int .i64 src, .int .i64 dst, .bool ctl, .slice A2 n c2] 37)).drew.ownsRow base 37 5 (.slice fA l.length fc) l.length (lcs l) := own_below hlo6 hal6
  have hrc7 : RC (w6.alloc (.cells #[.int .i64 (last + 1), .int .i64 src, .int .i64 dst, .bool ctl, .slice A2 n c2] 37)).drew (some ⟨w6.heap.size, 0, none⟩) (ltc ⟨last + 1, src, dst, ctl⟩ (.slice A2 n c2)) := rc_new w6 _ 37
  have hfl1 : ∀ u ∈ ltc ⟨last + 1, src, dst, ctl⟩ (.slice A2 n c2), u.oneCell' = true := by simp [ltc, Value.oneCell']
  have hbs7 : base ≤ (w6.alloc (.cells #[.int .i64 (last + 1), .int .i64 src, .int .i64 dst, .bool ctl, .slice A2 n c2] 37)).drew.heap.size := by have := hal6.size; omega
  clear hg6 hX2 hF2 hlo2 hrows2 hch2 hown2 hc1 hb2
  go_cut [] (fun wx => Hid (FPut w base gf w.heap.size last (.slice fA l.length fc) l xs ⟨id, src, dst, ctl⟩ bs_ A2 n c2 wx))
  case first =>
    go_region_law (((with_reducible refine at_world (w6.alloc (.cells #[.int .i64 (last + 1), .int .i64 src, .int .i64 dst, .bool ctl, .slice A2 n c2] 37)).drew ?_); refine step_app _ rfl (.tmp 35) (.tmp 37) 27 rfl base 37 i0 (.agg #[.int .i64 0, .int .i64 0, .int .i64 0, .bool false, .slice none 0 0]) 5 56 Try.underlying27 hi hz0 hz1 hz2 rfl (by omega) _ l.length (lcs l) rfl hlo7 (some ⟨w6.heap.size, 0, none⟩) 1 1 (ltc ⟨last + 1, src, dst, ctl⟩ (.slice A2 n c2)) rfl rfl hrc7 hfl1 (by unfold maxLen; omega) (by omega) hbs7 ?_; intro v8 w8 hown8 hg8 hat8; have hF8 := (hF6.kept hal6).grown hg8 (fun e => own_blk_ne hlo7 (hF6.kept hal6) (by decide) gf e.symm rfl); have d8 := hF8.cell 0; have y8 := hF8.frozen 0; simp only [List.getElem?_cons_zero] at d8; obtain ⟨A8, k8, rfl, hk8, -, -⟩ := own_formS hown8))
    all_goals
      go_wp2_with fail
      go_meet
      exact fput_step hbs HN.out rfl hgl hch6 hal6 hF6 hX6 hlo7 HFLT.out hrows6 hown6 hg8 hown8 hat8
  case rest =>
    have r5 : wc.cell? ⟨w.heap.size, 0, none⟩ = some (.int .i64 (last + 1)) := by obtain ⟨_, _, _, _, _, r5⟩ := hcut.out; exact r5
    have HC := hcut
    clear hcut
    go_wp2_with fail
    go_ret2
    exact ⟨rfl, _, A2, c2, hc2, HC.out⟩
end Go.Proofs.Ytikichifdkgobaa
