/- The document's fabric: its place in memory; the walks of Is, Place, put, Send. -/
import Derived.Test.YtikichifdkgobaaFabWait
namespace Go.Proofs.Ytikichifdkgobaa
set_option linter.unusedVariables false
set_option linter.unusedSimpArgs false
open Go.RowKit

theorem ris_0 (n : Int) (w : World) (h : n < 0) : Calls Try.prog 38 #[.int .i64 n] w fun e w' => e = .returned (.bool false) ∧ w' = w := by
  have f0 : (n == 0) = false := by simp; omega
  have f1 : decide ((16 : Int) ≤ n) = false := by simp; omega
  have f2 : decide (n ≤ 23) = true := by simp; omega
  have f3 : decide ((32 : Int) ≤ n) = false := by simp; omega
  have f4 : decide (n ≤ 39) = true := by simp; omega
  have f5 : decide ((48 : Int) ≤ n) = false := by simp; omega
  have f6 : decide (n ≤ 55) = true := by simp; omega
  clear h
  go_enter Try.func38, Try.ntmps38
  go_wp2
  go_ret
  exact ⟨rfl, rfl⟩
theorem ris_1 (n : Int) (w : World) (h : n = 0) : Calls Try.prog 38 #[.int .i64 n] w fun e w' => e = .returned (.bool true) ∧ w' = w := by
  have f0 : (n == 0) = true := by simp; omega
  have f1 : decide ((16 : Int) ≤ n) = false := by simp; omega
  have f2 : decide (n ≤ 23) = true := by simp; omega
  have f3 : decide ((32 : Int) ≤ n) = false := by simp; omega
  have f4 : decide (n ≤ 39) = true := by simp; omega
  have f5 : decide ((48 : Int) ≤ n) = false := by simp; omega
  have f6 : decide (n ≤ 55) = true := by simp; omega
  clear h
  go_enter Try.func38, Try.ntmps38
  go_wp2
  go_ret
  exact ⟨rfl, rfl⟩
theorem ris_2 (n : Int) (w : World) (h : 1 ≤ n ∧ n ≤ 15) : Calls Try.prog 38 #[.int .i64 n] w fun e w' => e = .returned (.bool false) ∧ w' = w := by
  have f0 : (n == 0) = false := by simp; omega
  have f1 : decide ((16 : Int) ≤ n) = false := by simp; omega
  have f2 : decide (n ≤ 23) = true := by simp; omega
  have f3 : decide ((32 : Int) ≤ n) = false := by simp; omega
  have f4 : decide (n ≤ 39) = true := by simp; omega
  have f5 : decide ((48 : Int) ≤ n) = false := by simp; omega
  have f6 : decide (n ≤ 55) = true := by simp; omega
  clear h
  go_enter Try.func38, Try.ntmps38
  go_wp2
  go_ret
  exact ⟨rfl, rfl⟩
theorem ris_3 (n : Int) (w : World) (h : 16 ≤ n ∧ n ≤ 23) : Calls Try.prog 38 #[.int .i64 n] w fun e w' => e = .returned (.bool true) ∧ w' = w := by
  have f0 : (n == 0) = false := by simp; omega
  have f1 : decide ((16 : Int) ≤ n) = true := by simp; omega
  have f2 : decide (n ≤ 23) = true := by simp; omega
  have f3 : decide ((32 : Int) ≤ n) = false := by simp; omega
  have f4 : decide (n ≤ 39) = true := by simp; omega
  have f5 : decide ((48 : Int) ≤ n) = false := by simp; omega
  have f6 : decide (n ≤ 55) = true := by simp; omega
  clear h
  go_enter Try.func38, Try.ntmps38
  go_wp2
  go_ret
  exact ⟨rfl, rfl⟩
theorem ris_4 (n : Int) (w : World) (h : 24 ≤ n ∧ n ≤ 31) : Calls Try.prog 38 #[.int .i64 n] w fun e w' => e = .returned (.bool false) ∧ w' = w := by
  have f0 : (n == 0) = false := by simp; omega
  have f1 : decide ((16 : Int) ≤ n) = true := by simp; omega
  have f2 : decide (n ≤ 23) = false := by simp; omega
  have f3 : decide ((32 : Int) ≤ n) = false := by simp; omega
  have f4 : decide (n ≤ 39) = true := by simp; omega
  have f5 : decide ((48 : Int) ≤ n) = false := by simp; omega
  have f6 : decide (n ≤ 55) = true := by simp; omega
  clear h
  go_enter Try.func38, Try.ntmps38
  go_wp2
  go_ret
  exact ⟨rfl, rfl⟩
theorem ris_5 (n : Int) (w : World) (h : 32 ≤ n ∧ n ≤ 39) : Calls Try.prog 38 #[.int .i64 n] w fun e w' => e = .returned (.bool true) ∧ w' = w := by
  have f0 : (n == 0) = false := by simp; omega
  have f1 : decide ((16 : Int) ≤ n) = true := by simp; omega
  have f2 : decide (n ≤ 23) = false := by simp; omega
  have f3 : decide ((32 : Int) ≤ n) = true := by simp; omega
  have f4 : decide (n ≤ 39) = true := by simp; omega
  have f5 : decide ((48 : Int) ≤ n) = false := by simp; omega
  have f6 : decide (n ≤ 55) = true := by simp; omega
  clear h
  go_enter Try.func38, Try.ntmps38
  go_wp2
  go_ret
  exact ⟨rfl, rfl⟩
theorem ris_6 (n : Int) (w : World) (h : 40 ≤ n ∧ n ≤ 47) : Calls Try.prog 38 #[.int .i64 n] w fun e w' => e = .returned (.bool false) ∧ w' = w := by
  have f0 : (n == 0) = false := by simp; omega
  have f1 : decide ((16 : Int) ≤ n) = true := by simp; omega
  have f2 : decide (n ≤ 23) = false := by simp; omega
  have f3 : decide ((32 : Int) ≤ n) = true := by simp; omega
  have f4 : decide (n ≤ 39) = false := by simp; omega
  have f5 : decide ((48 : Int) ≤ n) = false := by simp; omega
  have f6 : decide (n ≤ 55) = true := by simp; omega
  clear h
  go_enter Try.func38, Try.ntmps38
  go_wp2
  go_ret
  exact ⟨rfl, rfl⟩
theorem ris_7 (n : Int) (w : World) (h : 48 ≤ n ∧ n ≤ 55) : Calls Try.prog 38 #[.int .i64 n] w fun e w' => e = .returned (.bool true) ∧ w' = w := by
  have f0 : (n == 0) = false := by simp; omega
  have f1 : decide ((16 : Int) ≤ n) = true := by simp; omega
  have f2 : decide (n ≤ 23) = false := by simp; omega
  have f3 : decide ((32 : Int) ≤ n) = true := by simp; omega
  have f4 : decide (n ≤ 39) = false := by simp; omega
  have f5 : decide ((48 : Int) ≤ n) = true := by simp; omega
  have f6 : decide (n ≤ 55) = true := by simp; omega
  clear h
  go_enter Try.func38, Try.ntmps38
  go_wp2
  go_ret
  exact ⟨rfl, rfl⟩
theorem ris_8 (n : Int) (w : World) (h : 56 ≤ n) : Calls Try.prog 38 #[.int .i64 n] w fun e w' => e = .returned (.bool false) ∧ w' = w := by
  have f0 : (n == 0) = false := by simp; omega
  have f1 : decide ((16 : Int) ≤ n) = true := by simp; omega
  have f2 : decide (n ≤ 23) = false := by simp; omega
  have f3 : decide ((32 : Int) ≤ n) = true := by simp; omega
  have f4 : decide (n ≤ 39) = false := by simp; omega
  have f5 : decide ((48 : Int) ≤ n) = true := by simp; omega
  have f6 : decide (n ≤ 55) = false := by simp; omega
  clear h
  go_enter Try.func38, Try.ntmps38
  go_wp2
  go_ret
  exact ⟨rfl, rfl⟩
theorem ris_yes (n : Int) (w : World) (h : IsN n) : Calls Try.prog 38 #[.int .i64 n] w fun e w' => e = .returned (.bool true) ∧ w' = w := by
  rcases h with h | h | h | h
  · exact ris_1 n w h
  · exact ris_3 n w h
  · exact ris_5 n w h
  · exact ris_7 n w h
theorem ris_no (n : Int) (w : World) (h : ¬ IsN n) : Calls Try.prog 38 #[.int .i64 n] w fun e w' => e = .returned (.bool false) ∧ w' = w := by
  have hc : n < 0 ∨ (1 ≤ n ∧ n ≤ 15) ∨ (24 ≤ n ∧ n ≤ 31) ∨ (40 ≤ n ∧ n ≤ 47) ∨ 56 ≤ n := by unfold IsN at h; omega
  rcases hc with h | h | h | h | h
  · exact ris_0 n w h
  · exact ris_2 n w h
  · exact ris_4 n w h
  · exact ris_6 n w h
  · exact ris_8 n w h

/-- The document's fabric behind a pointer. -/
structure Rb (w : World) (base gm : Nat) (last : Int) (ml : Value) (l : List (Lh × Value)) (xs : List (List UInt8)) : Prop where
  blk : Blk w gm 55 [ml, .int .i64 last]
  own : w.ownsRow base 37 5 ml l.length (lcs l)
  rows : Ows w base (l.map (·.2)) xs
theorem Rb.below {w w' : World} {base gm : Nat} {last : Int} {ml : Value} {l : List (Lh × Value)} {xs : List (List UInt8)} (h : Rb w base gm last ml l xs) (hb : Below w.heap.size w w') : Rb w' base gm last ml l xs := ⟨h.blk.kept hb, own_below h.own hb, h.rows.below hb⟩
theorem Rb.slices {w : World} {base gm : Nat} {last : Int} {ml : Value} {l : List (Lh × Value)} {xs : List (List UInt8)} (h : Rb w base gm last ml l xs) : ∀ p ∈ l, ∃ A k c, p.2 = .slice A k c := by
  intro p hp
  obtain ⟨x, ho⟩ := h.rows.mem (List.mem_map.2 ⟨p, hp, rfl⟩)
  obtain ⟨A, c, e, _⟩ := own_form ho
  exact ⟨A, _, c, e⟩
theorem rplace_none (n : Int) (w : World) : Calls Try.prog 40 #[.int .i64 n, .int .i64 0] w fun e w' => e = .returned (.int .i64 (-1)) ∧ w' = w := by
  go_enter Try.func40, Try.ntmps40
  go_wp2
  go_ret
  exact ⟨rfl, rfl⟩
theorem pl_two (n : Int) (c : Nat) (h : 0 < c) : (Int.tmod n (c : Int) < 0 → Int.tmod n (c : Int) + (c : Int) = (pl n c : Int)) ∧ (0 ≤ Int.tmod n (c : Int) → Int.tmod n (c : Int) = (pl n c : Int)) := by
  have hb := tmod_bd n c h
  have he := pl_eq n c h
  generalize Int.tmod n (c : Int) = r at *
  rw [Int.tmod_eq_emod_of_nonneg (by omega), Int.add_emod_right] at he
  constructor
  · intro h1
    rw [← Int.add_emod_right, Int.emod_eq_of_lt (by omega) (by omega)] at he
    exact he
  · intro h1
    rw [Int.emod_eq_of_lt (by omega) (by omega)] at he
    exact he
set_option maxHeartbeats 400000 in
theorem rplace_some (n : Int) (c p : Nat) (w : World) (h0 : 0 < c) (hl : c ≤ 4096) (hp : pl n c = p) : Calls Try.prog 40 #[.int .i64 n, .int .i64 (c : Int)] w fun e w' => e = .returned (.int .i64 (p : Int)) ∧ w' = w := by
  have hb := tmod_bd n c h0
  obtain ⟨e1, e2⟩ := pl_two n c h0
  rw [hp] at e1 e2
  have hne : ((c : Int) == 0) = false := beq_eq_false_iff_ne.2 (by omega)
  generalize hr : Int.tmod n (c : Int) = r at *
  have w1 : IntKind.i64.wrap r = r := IntWalk.i64_in _ (by omega)
  by_cases hn : r < 0
  · have hd : decide (r < 0) = true := decide_eq_true hn
    have he := e1 hn
    have w2 : IntKind.i64.wrap (r + (c : Int)) = (p : Int) := by rw [he]; exact IntWalk.i64_in _ (by omega)
    clear e1 e2 he hn hp
    go_enter Try.func40, Try.ntmps40
    go_wp2_with fail
    go_ret
    exact ⟨rfl, rfl⟩
  · have hd : decide (r < 0) = false := decide_eq_false hn
    have he := e2 (by omega)
    clear e1 e2 hn hp
    subst he
    go_enter Try.func40, Try.ntmps40
    go_wp2_with fail
    go_ret
    exact ⟨rfl, rfl⟩

theorem rb_newS {w wa : World} {A : Option Addr} {xs : List UInt8} {i : Nat} {u : Value} (h : RB w A xs) (h1 : RB wa A xs) : RB (wa.setCell ⟨w.heap.size, i, none⟩ u) A xs := fun j v hv => by
  obtain ⟨ad, e, hc⟩ := h j v hv
  obtain ⟨ad', e', hc'⟩ := h1 j v hv
  rw [e] at e'
  injection e' with e'
  subst e'
  have hlt := World.block_lt_of_cell? w _ hc
  refine ⟨ad, e, ?_⟩
  rw [(grown_set wa w.heap.size i u).cell_far (ad.add j) (World.block_lt_of_cell? wa _ hc') (by intro e; injection e with e; omega)]
  exact hc'
/-- What a put leaves. -/
def RbPut (w : World) (base gm : Nat) (last : Int) (ml : Value) (l : List (Lh × Value)) (xs : List (List UInt8)) (h : Lh) (bs_ : List UInt8) (n : Nat) (wx : World) : Prop :=
  ∃ A2 c2 ml2, Rb wx base gm (last + 1) ml2 (l ++ [(⟨last + 1, h.src, h.dst, h.ctl⟩, .slice A2 n c2)]) (xs ++ [bs_]) ∧
      wx.ownsRow w.heap.size 5 1 (.slice A2 n c2) n (bs_.map bv) ∧ Chg w wx (fun b => b = gm ∨ ml.ownBlock = some b) ∧ (ml2.ownBlock = ml.ownBlock ∨ ∃ b, ml2.ownBlock = some b ∧ w.heap.size ≤ b)
theorem rbput_step {w w6 w7 w8 : World} {base gm gb : Nat} {last : Int} {ml ml2 : Value} {l : List (Lh × Value)} {xs : List (List UInt8)} {h : Lh} {bs_ : List UInt8} {A2 : Option Addr} {n c2 : Nat} {c0 : List Value} (hbs : base ≤ w.heap.size) (hn : bs_.length = n) (hgb : w.heap.size = gb) (hgf : gm < w.heap.size)
    (hch : Chg w w6 (fun b => b = gm ∨ ml.ownBlock = some b)) (h67 : Below w6.heap.size w6 w7) (hF : Blk w6 gm 55 [ml, .int .i64 (last + 1)]) (hX : Blk w6 gb 37 c0) (hlo : w7.ownsRow base 37 5 ml l.length (lcs l)) (hflt : ∀ b, ml.ownBlock = some b → b < w.heap.size)
    (hrows : Ows w6 base (l.map (·.2)) xs) (hown : w6.ownsRow w.heap.size 5 1 (.slice A2 n c2) n (bs_.map bv)) (hg8 : w7.grownBy w8 ml.ownBlock)
    (hown8 : w8.ownsRow base 37 5 ml2 (l.length + 1) (lcs l ++ ltc ⟨last + 1, h.src, h.dst, h.ctl⟩ (.slice A2 n c2))) (hat : At w7 ml ml2) : RbPut w base gm last ml l xs h bs_ n (w8.setCell ⟨gm, 0, none⟩ ml2) := by
  subst hn
  have hws := hch.2.2.2.1
  have h7s := h67.size
  have hF7 := hF.kept h67
  have hF8 : Blk w8 gm 55 [ml, .int .i64 (last + 1)] := hF7.grown hg8 (fun e => own_blk_ne hlo hF7 (by decide) gm e.symm rfl)
  have hr7 := hrows.below h67
  have hr8 : Ows w8 base (l.map (·.2)) xs := hr7.chg (Chg.of hg8 (S := fun b => ml.ownBlock = some b) (fun b hb => hb)) (fun v hv b hb e => by
    obtain ⟨x, ho⟩ := hr7.mem hv
    exact own_not_types ho hlo (by decide) b hb e)
  have ho7 := own_below hown h67
  have ho8 : w8.ownsRow w.heap.size 5 1 (.slice A2 bs_.length c2) bs_.length (bs_.map bv) := (Chg.of hg8 (S := fun b => ml.ownBlock = some b) (fun b hb => hb)).row ho7 (fun b hb e => own_not_types ho7 hlo (by decide) b hb e)
  have ho9 := set_row (i := 0) (u := ml2) ho8 hF8 (by decide)
  refine ⟨A2, c2, ml2, ⟨hF8.set_ 0 ml2, ?_, ?_⟩, ho9, ?_, ?_⟩
  · have e1 : lcs (l ++ [(⟨last + 1, h.src, h.dst, h.ctl⟩, .slice A2 bs_.length c2)]) = lcs l ++ ltc ⟨last + 1, h.src, h.dst, h.ctl⟩ (.slice A2 bs_.length c2) := by rw [lcs_append]; simp [lcs]
    rw [e1, List.length_append]
    exact set_row hown8 hF8 (by decide)
  · rw [List.map_append]
    exact (hr8.set hF8 (by decide)).append (Ows.one (own_weaken ho9 hbs))
  · exact ((hch.trans (Chg.of_below h67)).fresh hg8 (fun b hb _ => .inr hb)).fresh (grown_set w8 gm 0 ml2) (fun b hb _ => by injection hb with hb; exact .inl hb.symm)
  · rcases hat with e | e
    · exact .inl e
    · exact .inr ⟨_, e, by omega⟩
set_option maxRecDepth 100000 in
set_option maxHeartbeats 3200000 in
theorem rput_some (base gm : Nat) (last : Int) (ml : Value) (l : List (Lh × Value)) (xs : List (List UInt8)) (h : Lh) (bs_ : List UInt8) (A : Option Addr) (n c : Nat) (w : World) (hF : Rb w base gm last ml l xs) (hbs : base ≤ w.heap.size) (hl : l.length < 4096) (hla : 0 ≤ last ∧ last ≤ 1000000)
    (hn : bs_.length = n) (hA : RB w A bs_) (hc : n ≤ c) (hnl : n ≤ 4000000) :
    Calls Try.prog 39 #[.pointer (some ⟨gm, 0, none⟩), ltv h (.slice A n c)] w fun e w' => e = .returned (.tuple #[.int .i64 (last + 1), .int .i64 0]) ∧ RbPut w base gm last ml l xs h bs_ n w' := by
  obtain ⟨i0, hi, hz0, hz1, hz2⟩ := info_parts info_lt
  obtain ⟨j0, hj, hy0, hy1, hy2⟩ := info_parts info_u8
  obtain ⟨id, src, dst, ctl⟩ := h
  have HN := Lib.hid hn
  clear hn
  have c0 := hF.blk.cell 0
  have c1 := hF.blk.cell 1
  have z1 := hF.blk.frozen 1
  have hgl := hF.blk.lt
  simp only [List.getElem?_cons_zero, List.getElem?_cons_succ] at c0 c1
  obtain ⟨fA, fc, rfl, hfc, hfl5, hfn⟩ := own_formS hF.own
  have hlf : decide ((4096 : Int) ≤ (l.length : Int)) = false := by simp; omega
  go_enter Try.func39, Try.ntmps39
  have hal : Below (w.setCell ⟨gm, 1, none⟩ (.int .i64 (last + 1))).heap.size (w.setCell ⟨gm, 1, none⟩ (.int .i64 (last + 1))) ((w.setCell ⟨gm, 1, none⟩ (.int .i64 (last + 1))).alloc (.cells #[.int .i64 id, .int .i64 src, .int .i64 dst, .bool ctl, .slice A n c] 37)) := (Below.refl _ _).alloc (Nat.le_refl _) _
  have hF1 : Blk ((w.setCell ⟨gm, 1, none⟩ (.int .i64 (last + 1))).alloc (.cells #[.int .i64 id, .int .i64 src, .int .i64 dst, .bool ctl, .slice A n c] 37)) gm 55 [.slice fA l.length fc, .int .i64 (last + 1)] := (hF.blk.set_ 1 _).alloc _
  have hX1 : Blk ((w.setCell ⟨gm, 1, none⟩ (.int .i64 (last + 1))).alloc (.cells #[.int .i64 id, .int .i64 src, .int .i64 dst, .bool ctl, .slice A n c] 37)) w.heap.size 37 [.int .i64 id, .int .i64 src, .int .i64 dst, .bool ctl, .slice A n c] := blk_new (by simp [World.setCell])
  have hc1 : Chg w ((w.setCell ⟨gm, 1, none⟩ (.int .i64 (last + 1))).alloc (.cells #[.int .i64 id, .int .i64 src, .int .i64 dst, .bool ctl, .slice A n c] 37)) (fun b => b = gm ∨ (Value.slice fA l.length fc).ownBlock = some b) :=
    (Chg.of (grown_set w gm 1 _) (fun b hb => by injection hb with hb; exact .inl hb.symm)).trans (Chg.of_below hal)
  have hown1 : ((w.setCell ⟨gm, 1, none⟩ (.int .i64 (last + 1))).alloc (.cells #[.int .i64 id, .int .i64 src, .int .i64 dst, .bool ctl, .slice A n c] 37)).ownsRow base 37 5 (.slice fA l.length fc) l.length (lcs l) := (set_row hF.own hF.blk (by decide)).alloc _
  have hA1 : RB ((w.setCell ⟨gm, 1, none⟩ (.int .i64 (last + 1))).alloc (.cells #[.int .i64 id, .int .i64 src, .int .i64 dst, .bool ctl, .slice A n c] 37)) A bs_ := (rb_set hA hF.blk).below hal
  have hrows1 : Ows ((w.setCell ⟨gm, 1, none⟩ (.int .i64 (last + 1))).alloc (.cells #[.int .i64 id, .int .i64 src, .int .i64 dst, .bool ctl, .slice A n c] 37)) base (l.map (·.2)) xs := (hF.rows.set hF.blk (by decide)).below hal
  go_upto_region 4 with (fail)
  generalize ((w.setCell ⟨gm, 1, none⟩ (.int .i64 (last + 1))).alloc (.cells #[.int .i64 id, .int .i64 src, .int .i64 dst, .bool ctl, .slice A n c] 37)) = wa at *
  have hflt : ∀ b, (Value.slice fA l.length fc).ownBlock = some b → b < w.heap.size := fun b hb => (own_lt hF.own hb).2
  have HFLT := Lib.hid hflt
  -- the number
  have hg2 := grown_set wa w.heap.size 0 (.int .i64 (last + 1))
  have hF2 : Blk (wa.setCell ⟨w.heap.size, 0, none⟩ (.int .i64 (last + 1))) gm 55 [.slice fA l.length fc, .int .i64 (last + 1)] := hF1.grown hg2 (by simp; omega)
  have hX2 : Blk (wa.setCell ⟨w.heap.size, 0, none⟩ (.int .i64 (last + 1))) w.heap.size 37 [.int .i64 (last + 1), .int .i64 src, .int .i64 dst, .bool ctl, .slice A n c] := hX1.set_ 0 _
  have hc2 : Chg w (wa.setCell ⟨w.heap.size, 0, none⟩ (.int .i64 (last + 1))) (fun b => b = gm ∨ (Value.slice fA l.length fc).ownBlock = some b) := hc1.fresh hg2 (fun b hb hlt => by injection hb with hb; omega)
  have hown2 : (wa.setCell ⟨w.heap.size, 0, none⟩ (.int .i64 (last + 1))).ownsRow base 37 5 (.slice fA l.length fc) l.length (lcs l) := hown1.kept hg2 (by
    cases hb : (Value.slice fA l.length fc).ownBlock with
    | none => exact .inl rfl
    | some b => exact .inr (by have := hflt b hb; simp; omega))
  have hrows2 : Ows (wa.setCell ⟨w.heap.size, 0, none⟩ (.int .i64 (last + 1))) base (l.map (·.2)) xs := hrows1.chg (Chg.of hg2 (S := fun b => w.heap.size = b) (fun b hb => by injection hb)) (fun v hv b hb e => by
    obtain ⟨x, ho⟩ := hrows1.mem hv
    exact own_blk_ne ho hX1 (by decide) b hb e.symm)
  have hA2 : RB (wa.setCell ⟨w.heap.size, 0, none⟩ (.int .i64 (last + 1))) A bs_ := rb_newS hA hA1
  obtain ⟨x0, x1, x2, x3, x4⟩ := blk5l hX1
  obtain ⟨f0, f1, f2, f3, f4⟩ := frz5l hX1
  have d1 := hF1.cell 1
  have xl := hX1.lt
  simp only [List.getElem?_cons_zero, List.getElem?_cons_succ] at d1
  clear hF1 hX1 hc1 hown1 hA1 hrows1 hal hflt hF hA
  go_upto_region 5 with (fail)
  generalize wa.setCell ⟨w.heap.size, 0, none⟩ (.int .i64 (last + 1)) = wb at *
  clear x0 x1 x2 x3 x4 f0 f1 f2 f3 f4 d1 xl hg2
  have hgbl := hX2.lt
  have hal : Below wb.heap.size wb (wb.alloc (.cells #[] 5)) := (Below.refl _ _).alloc (Nat.le_refl _) _
  have hA3 := hA2.below hal
  have hown0 : (wb.alloc (.cells #[] 5)).ownsRow wb.heap.size 5 1 (.slice (some ⟨wb.heap.size, 0, none⟩) 0 0) 0 [] := own_empty wb wb.heap.size 5 wb.heap.size rfl (Nat.le_refl _)
  have hbl : (bs_.map bv).length = n * 1 := by rw [List.length_map, HN.out, Nat.mul_one]
  obtain ⟨x0, x1, x2, x3, x4⟩ := blk5l (hX2.kept hal)
  go_wp2_with (at_builtin; refine wl_app _ rfl (.tmp 25) (.tmp 27) 29 rfl wb.heap.size 5 j0 (.int .u8 0) 1 1 Try.underlying29 hj hy0 hy1 hy2 rfl (by omega) _ 0 [] rfl hown0 A n c (bs_.map bv) rfl hbl hA3 (one_bv bs_) (by unfold maxLen; omega) (by omega) (by simp) ?_)
  intro v3 w3 hown3 hg3 hat3
  have hb3 : Below wb.heap.size wb w3 := hal.grown hg3 hal.size (fun q hq => (own_lt hown0 hq).1)
  (try simp only [Nat.zero_add, List.nil_append] at hown3)
  obtain ⟨A2, c2, rfl, hc2', -, -⟩ := own_formS hown3
  have hF3 := hF2.kept hb3
  have hX3 := hX2.kept hb3
  have hch3 := hc2.trans (Chg.of_below hb3)
  have hlo3 := own_below hown2 hb3
  have hrows3 := hrows2.below hb3
  clear x0 x1 x2 x3 x4 hown0 hg3 hat3 hal hA3 hF2 hX2 hown2 hrows2 hA2 hbl
  obtain ⟨x0, x1, x2, x3, x4⟩ := blk5l hX3
  obtain ⟨f0, f1, f2, f3, f4⟩ := frz5l hX3
  go_upto_region 6 with (fail)
  have hg6 := grown_set w3 w.heap.size 4 (.slice A2 n c2)
  have hF6 : Blk (w3.setCell ⟨w.heap.size, 4, none⟩ (.slice A2 n c2)) gm 55 [.slice fA l.length fc, .int .i64 (last + 1)] := hF3.grown hg6 (by simp; omega)
  have hX6 : Blk (w3.setCell ⟨w.heap.size, 4, none⟩ (.slice A2 n c2)) w.heap.size 37 [.int .i64 (last + 1), .int .i64 src, .int .i64 dst, .bool ctl, .slice A2 n c2] := hX3.set_ 4 _
  have hch6 : Chg w (w3.setCell ⟨w.heap.size, 4, none⟩ (.slice A2 n c2)) (fun b => b = gm ∨ (Value.slice fA l.length fc).ownBlock = some b) := hch3.fresh hg6 (fun b hb hlt => by injection hb with hb; omega)
  have hlo6 : (w3.setCell ⟨w.heap.size, 4, none⟩ (.slice A2 n c2)).ownsRow base 37 5 (.slice fA l.length fc) l.length (lcs l) := hlo3.kept hg6 (by
    cases hb : (Value.slice fA l.length fc).ownBlock with
    | none => exact .inl rfl
    | some b => exact .inr (by have := HFLT.out b hb; simp; omega))
  have hrows6 : Ows (w3.setCell ⟨w.heap.size, 4, none⟩ (.slice A2 n c2)) base (l.map (·.2)) xs := hrows3.chg (Chg.of hg6 (S := fun b => w.heap.size = b) (fun b hb => by injection hb)) (fun v hv b hb e => by
    obtain ⟨x, ho⟩ := hrows3.mem hv
    exact own_blk_ne ho hX3 (by decide) b hb e.symm)
  have hwb := hc2.2.2.2.1
  have hown6 : (w3.setCell ⟨w.heap.size, 4, none⟩ (.slice A2 n c2)).ownsRow w.heap.size 5 1 (.slice A2 n c2) n (bs_.map bv) := own_weaken ((Chg.of hg6 (S := fun b => w.heap.size = b) (fun b hb => by injection hb)).row hown3 (fun b hb e => own_blk_ne hown3 hX3 (by decide) b hb e.symm)) hwb
  generalize w3.setCell ⟨w.heap.size, 4, none⟩ (.slice A2 n c2) = w6 at *
  clear x0 x1 x2 x3 x4 f0 f1 f2 f3 f4 hg6 hF3 hX3 hlo3 hrows3 hown3
  obtain ⟨x0, x1, x2, x3, x4⟩ := blk5l hX6
  have d0 := hF6.cell 0
  have y0 := hF6.frozen 0
  simp only [List.getElem?_cons_zero, List.getElem?_cons_succ] at d0
  have hgl6 := hF6.lt
  have hw6 := hch6.2.2.2.1
  have hal6 : Below w6.heap.size w6 (w6.alloc (.cells #[.int .i64 (last + 1), .int .i64 src, .int .i64 dst, .bool ctl, .slice A2 n c2] 37)).drew := Below.drew ((Below.refl _ w6).alloc (Nat.le_refl _) _)
  have hlo7 : (w6.alloc (.cells #[.int .i64 (last + 1), .int .i64 src, .int .i64 dst, .bool ctl, .slice A2 n c2] 37)).drew.ownsRow base 37 5 (.slice fA l.length fc) l.length (lcs l) := own_below hlo6 hal6
  have hrc7 : RC (w6.alloc (.cells #[.int .i64 (last + 1), .int .i64 src, .int .i64 dst, .bool ctl, .slice A2 n c2] 37)).drew (some ⟨w6.heap.size, 0, none⟩) (ltc ⟨last + 1, src, dst, ctl⟩ (.slice A2 n c2)) := rc_new w6 _ 37
  have hfl1 : ∀ u ∈ ltc ⟨last + 1, src, dst, ctl⟩ (.slice A2 n c2), u.oneCell' = true := by simp [ltc, Value.oneCell']
  have hbs7 : base ≤ (w6.alloc (.cells #[.int .i64 (last + 1), .int .i64 src, .int .i64 dst, .bool ctl, .slice A2 n c2] 37)).drew.heap.size := by have := hal6.size; omega
  go_cut [] (fun wx => Hid (RbPut w base gm last (.slice fA l.length fc) l xs ⟨id, src, dst, ctl⟩ bs_ n wx))
  case first =>
    go_region_law (((with_reducible refine at_world (w6.alloc (.cells #[.int .i64 (last + 1), .int .i64 src, .int .i64 dst, .bool ctl, .slice A2 n c2] 37)).drew ?_); refine step_app _ rfl (.tmp 34) (.tmp 36) 27 rfl base 37 i0 (.agg #[.int .i64 0, .int .i64 0, .int .i64 0, .bool false, .slice none 0 0]) 5 56 Try.underlying27 hi hz0 hz1 hz2 rfl (by omega) _ l.length (lcs l) rfl hlo7 (some ⟨w6.heap.size, 0, none⟩) 1 1 (ltc ⟨last + 1, src, dst, ctl⟩ (.slice A2 n c2)) rfl rfl hrc7 hfl1 (by unfold maxLen; omega) (by omega) hbs7 ?_; intro v8 w8 hown8 hg8 hat8; have hF8 := (hF6.kept hal6).grown hg8 (fun e => own_blk_ne hlo7 (hF6.kept hal6) (by decide) gm e.symm rfl); have d8 := hF8.cell 0; have y8 := hF8.frozen 0; simp only [List.getElem?_cons_zero] at d8; obtain ⟨A8, k8, rfl, hk8, -, -⟩ := own_formS hown8))
    all_goals
      go_wp2_with fail
      go_meet
      exact rbput_step hbs HN.out rfl hgl hch6 hal6 hF6 hX6 hlo7 HFLT.out hrows6 hown6 hg8 hown8 hat8
  case rest =>
    obtain ⟨A9, c9, ml9, hR9, hrest⟩ := hcut.out
    have r1 := hR9.blk.cell 1
    simp only [List.getElem?_cons_zero, List.getElem?_cons_succ] at r1
    have HC := hcut
    clear hcut hR9 hrest
    go_wp2_with fail
    go_ret2
    exact ⟨rfl, HC.out⟩
end Go.Proofs.Ytikichifdkgobaa
