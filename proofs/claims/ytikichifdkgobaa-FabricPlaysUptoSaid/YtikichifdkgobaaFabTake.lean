/- The walks of the fabric's Nth, Take; Copy, Between, Waiting at none. -/
import Derived.Test.YtikichifdkgobaaFabDel
namespace Go.Proofs.Ytikichifdkgobaa
set_option linter.unusedVariables false
set_option linter.unusedSimpArgs false
open Go.RowKit

theorem Fb.below {w w' : World} {base gf : Nat} {last : Int} {fl : Value} {l : List (Lh × Value)} {xs : List (List UInt8)} (h : Fb w base gf last fl l xs) (hb : Below w.heap.size w w') : Fb w' base gf last fl l xs := ⟨h.blk.kept hb, own_below h.own hb, h.rows.below hb⟩
theorem Fb.slices {w : World} {base gf : Nat} {last : Int} {fl : Value} {l : List (Lh × Value)} {xs : List (List UInt8)} (h : Fb w base gf last fl l xs) : ∀ p ∈ l, ∃ A k c, p.2 = .slice A k c := by
  intro p hp
  obtain ⟨x, ho⟩ := h.rows.mem (List.mem_map_of_mem (f := (·.2)) hp)
  obtain ⟨A, c, e, _⟩ := own_form ho
  exact ⟨A, _, c, e⟩
theorem Fb.form {w : World} {base gf : Nat} {last : Int} {fl : Value} {l : List (Lh × Value)} {xs : List (List UInt8)} (h : Fb w base gf last fl l xs) (h0 : 0 < l.length) : ∃ g c, fl = .slice (some ⟨g, 0, none⟩) l.length c ∧ base ≤ g ∧ l.length ≤ c := by
  rcases h.own.2 with ⟨_, h1⟩ | ⟨g, cap, cur, e, hb, _, hn, _⟩
  · omega
  · exact ⟨g, cap, e, hb, hn⟩
theorem place_p (base gf : Nat) (last : Int) (fl : Value) (l : List (Lh × Value)) (xs : List (List UInt8)) (n : Int) (p : Nat) (w : World) (h : Fb w base gf last fl l xs) (h0 : 0 < l.length) (hl : l.length ≤ 4096) (hp : pl n l.length = p) : Calls Try.prog 35 #[.pointer (some ⟨gf, 0, none⟩), .int .i64 n] w fun e w' => e = .returned (.int .i64 (p : Int)) ∧ w' = w := by
  subst hp
  exact place_some base gf last fl l xs n w h h0 hl
theorem nth_none (base gf : Nat) (last : Int) (fl : Value) (xs : List (List UInt8)) (n : Int) (w : World) (h : Fb w base gf last fl [] xs) : Calls Try.prog 13 #[.pointer (some ⟨gf, 0, none⟩), .int .i64 n] w fun e w' => e = .returned (.tuple #[ltv ⟨0, 0, 0, false⟩ (.slice none 0 0), er 6]) ∧ Below w.heap.size w w' := by
  have hF := h.below ((Below.refl _ w).alloc (Nat.le_refl _) (.cells #[.int .i64 0, .int .i64 0, .int .i64 0, .bool false, .slice none 0 0] 37))
  go_enter Try.func13, Try.ntmps13
  go_wp2_with fail
  (with_reducible refine (place_none base gf last fl xs n _ hF).mono ?_)
  rintro e w1 ⟨rfl, rfl⟩
  go_wp2_with fail
  refine bodyPost_ret (results_cellT rfl _ _ w.heap.size 37 [.int .i64 0, .int .i64 0, .int .i64 0, .bool false, .slice none 0 0] _ rfl ?_ Try.underlying37 rfl (by kernel_rfl)) rfl ?_
  · first | exact Blk.new w _ _ | (have h := Blk.new w [.int .i64 0, .int .i64 0, .int .i64 0, .bool false, .slice none 0 0] 37; simpa using ((((h.set_ 0 (.int .i64 0)).set_ 1 (.int .i64 0)).set_ 2 (.int .i64 0)).set_ 3 (.bool false)).set_ 4 (.slice none 0 0))
  · exact ⟨rfl, (Below.refl _ w).alloc (Nat.le_refl _) _⟩
theorem nth_nil (n : Int) (w : World) : Calls Try.prog 13 #[.pointer none, .int .i64 n] w fun e w' => e = .returned (.tuple #[ltv ⟨0, 0, 0, false⟩ (.slice none 0 0), er 6]) ∧ Below w.heap.size w w' := by
  go_enter Try.func13, Try.ntmps13
  go_wp2_with fail
  (with_reducible refine (place_nil n _).mono ?_)
  rintro e w1 ⟨rfl, rfl⟩
  go_wp2_with fail
  refine bodyPost_ret (results_cellT rfl _ _ w.heap.size 37 [.int .i64 0, .int .i64 0, .int .i64 0, .bool false, .slice none 0 0] _ rfl ?_ Try.underlying37 rfl (by kernel_rfl)) rfl ?_
  · exact Blk.new w _ _
  · exact ⟨rfl, (Below.refl _ w).alloc (Nat.le_refl _) _⟩
/-- What Nth answers. -/
theorem set5 {w : World} {g : Nat} {t : TypeId} {a0 a1 a2 a3 a4 : Value} (h : Blk w g t [a0, a1, a2, a3, a4]) (b0 b1 b2 b3 b4 : Value) : Blk (((((w.setCell ⟨g, 0, none⟩ b0).setCell ⟨g, 1, none⟩ b1).setCell ⟨g, 2, none⟩ b2).setCell ⟨g, 3, none⟩ b3).setCell ⟨g, 4, none⟩ b4) g t [b0, b1, b2, b3, b4] := by
  have h := ((((h.set_ 0 b0).set_ 1 b1).set_ 2 b2).set_ 3 b3).set_ 4 b4
  simpa using h
theorem set5_b {a w : World} {B g : Nat} (h : Below B a w) (hg : B ≤ g) (b0 b1 b2 b3 b4 : Value) : Below B a (((((w.setCell ⟨g, 0, none⟩ b0).setCell ⟨g, 1, none⟩ b1).setCell ⟨g, 2, none⟩ b2).setCell ⟨g, 3, none⟩ b3).setCell ⟨g, 4, none⟩ b4) :=
  ((((h.setCell hg _).setCell hg _).setCell hg _).setCell hg _).setCell hg _
theorem set5_g (w : World) (g : Nat) (b0 b1 b2 b3 b4 : Value) : w.grownBy (((((w.setCell ⟨g, 0, none⟩ b0).setCell ⟨g, 1, none⟩ b1).setCell ⟨g, 2, none⟩ b2).setCell ⟨g, 3, none⟩ b3).setCell ⟨g, 4, none⟩ b4) (some g) :=
  ((((grown_set w g 0 _).trans (grown_set _ g 1 _)).trans (grown_set _ g 2 _)).trans (grown_set _ g 3 _)).trans (grown_set _ g 4 _)
set_option maxHeartbeats 800000 in
theorem nth_some (base gf : Nat) (last : Int) (fl : Value) (l : List (Lh × Value)) (xs : List (List UInt8)) (n : Int) (p : Nat) (h : Lh) (A : Option Addr) (k c : Nat) (bs_ : List UInt8) (w : World) (hF : Fb w base gf last fl l xs) (h0 : 0 < l.length) (hl : l.length ≤ 4096) (hp : pl n l.length = p) (hv : l[p]? = some (h, .slice A k c)) (hx : xs[p]? = some bs_) (hkl : bs_.length ≤ 4000000) :
    Calls Try.prog 13 #[.pointer (some ⟨gf, 0, none⟩), .int .i64 n] w fun e w' => ∃ A' c', e = .returned (.tuple #[ltv h (.slice A' k c'), .nilIface]) ∧ k ≤ c' ∧ w'.ownsRow w.heap.size 5 1 (.slice A' k c') k (bs_.map bv) ∧ Below w.heap.size w w' := by
  obtain ⟨id, src, dst, ctl⟩ := h
  have hal : Below w.heap.size w (w.alloc (.cells #[.int .i64 0, .int .i64 0, .int .i64 0, .bool false, .slice none 0 0] 37)) := (Below.refl _ w).alloc (Nat.le_refl _) _
  have hR : Blk (w.alloc (.cells #[.int .i64 0, .int .i64 0, .int .i64 0, .bool false, .slice none 0 0] 37)) w.heap.size 37 [.int .i64 0, .int .i64 0, .int .i64 0, .bool false, .slice none 0 0] := Blk.new w _ _
  have hF1 := hF.below hal
  obtain ⟨g, fc, rfl, hbg, hfc⟩ := hF.form h0
  have hpl := pl_lt n l.length h0
  rw [hp] at hpl
  have hvl : l[p] = (⟨id, src, dst, ctl⟩, .slice A k c) := by rw [List.getElem?_eq_getElem hpl] at hv; injection hv
  have hro := hF1.rows.own p (.slice A k c) bs_ (by rw [List.getElem?_map, hv]; rfl) hx
  obtain ⟨A0, c0', e0, hkc, hRB, -⟩ := own_form hro
  have hRB2 : RB _ A0 bs_ := hRB
  injection e0 with e1 e2 e3
  subst e1 e2 e3
  go_enter Try.func13, Try.ntmps13
  go_wp2_with fail
  generalize w.alloc (.cells #[.int .i64 0, .int .i64 0, .int .i64 0, .bool false, .slice none 0 0] 37) = wa at *
  (with_reducible refine (place_p base gf last _ l xs n p wa hF1 h0 hl hp).mono ?_)
  rintro e w1 ⟨rfl, rfl⟩
  have c0 := hF1.blk.cell 0
  simp only [List.getElem?_cons_zero] at c0
  have hcl : ∀ i, i < 5 → w1.cell? ⟨g, p * 5 + i, none⟩ = (ltc ⟨id, src, dst, ctl⟩ (.slice A bs_.length c))[i]? := fun i hi => by
    rw [hF1.own.cellAt (p * 5 + i) (by omega), lcs_get l p i hpl hi, hvl]
  have x0 := hcl 0 (by omega)
  have x1 := hcl 1 (by omega)
  have x2 := hcl 2 (by omega)
  have x3 := hcl 3 (by omega)
  have x4 := hcl 4 (by omega)
  simp only [ltc, List.getElem?_cons_zero, List.getElem?_cons_succ, Nat.add_zero] at x0 x1 x2 x3 x4
  have q1 : (p : Int) < (l.length : Int) := by omega
  have q2 : decide ((p : Int) < 0) = false := by simp
  have hws := hal.size
  have hal2 := hal
  have hlt := hR.lt
  clear hcl hro hv hvl hal hx hp
  go_wp2_with fail
  (with_reducible refine (own_any ⟨id, src, dst, ctl⟩ bs_ A bs_.length c w1 rfl hRB2 hkc hkl).mono ?_)
  rintro e w2 ⟨A2, c2, rfl, hc2, hown2, hb2⟩
  have hR2 := hR.kept hb2
  have hbw := below_call hal2 hb2
  have hlt2 := hR2.lt
  obtain ⟨r0, r1, r2, r3, r4⟩ := blk5l hR2
  obtain ⟨g0, g1, g2, g3, g4⟩ := frz5l hR2
  go_wp2_with fail
  refine bodyPost_ret (results_cellT rfl _ _ w.heap.size 37 [.int .i64 id, .int .i64 src, .int .i64 dst, .bool ctl, .slice A2 bs_.length c2] _ rfl (set5 hR2 _ _ _ _ _) Try.underlying37 rfl (by kernel_rfl)) rfl ?_
  refine ⟨A2, c2, rfl, hc2, ?_, ?_⟩
  · exact own_weaken (own_set hlt (own_set hlt (own_set hlt (own_set hlt (own_set hlt hown2))))) hws
  · exact set5_b hbw (Nat.le_refl _) _ _ _ _ _
theorem take_none (base gf : Nat) (last : Int) (fl : Value) (xs : List (List UInt8)) (n : Int) (w : World) (h : Fb w base gf last fl [] xs) : Calls Try.prog 15 #[.pointer (some ⟨gf, 0, none⟩), .int .i64 n] w fun e w' => e = .returned (.tuple #[ltv ⟨0, 0, 0, false⟩ (.slice none 0 0), er 6]) ∧ Below w.heap.size w w' := by
  have hal : Below w.heap.size w (w.alloc (.cells #[.int .i64 0, .int .i64 0, .int .i64 0, .bool false, .slice none 0 0] 37)) := (Below.refl _ w).alloc (Nat.le_refl _) _
  have hR : Blk (w.alloc (.cells #[.int .i64 0, .int .i64 0, .int .i64 0, .bool false, .slice none 0 0] 37)) w.heap.size 37 [.int .i64 0, .int .i64 0, .int .i64 0, .bool false, .slice none 0 0] := Blk.new w _ _
  have hF := h.below hal
  go_enter Try.func15, Try.ntmps15
  go_wp2_with fail
  generalize w.alloc (.cells #[.int .i64 0, .int .i64 0, .int .i64 0, .bool false, .slice none 0 0] 37) = wa at *
  (with_reducible refine (nth_none base gf last fl xs n wa hF).mono ?_)
  rintro e w1 ⟨rfl, hb⟩
  have hR2 := hR.kept hb
  have hbw := below_call hal hb
  have hlt2 := hR2.lt
  obtain ⟨r0, r1, r2, r3, r4⟩ := blk5l hR2
  obtain ⟨g0, g1, g2, g3, g4⟩ := frz5l hR2
  go_wp2_with fail
  refine bodyPost_ret (results_cellT rfl _ _ w.heap.size 37 [.int .i64 0, .int .i64 0, .int .i64 0, .bool false, .slice none 0 0] _ rfl ((set5 hR2 _ _ _ _ _).alloc _) Try.underlying37 rfl (by kernel_rfl)) rfl ?_
  exact ⟨rfl, below_al (set5_b hbw (Nat.le_refl _) _ _ _ _ _) _⟩
theorem take_nil (n : Int) (w : World) : Calls Try.prog 15 #[.pointer none, .int .i64 n] w fun e w' => e = .returned (.tuple #[ltv ⟨0, 0, 0, false⟩ (.slice none 0 0), er 6]) ∧ Below w.heap.size w w' := by
  have hal : Below w.heap.size w (w.alloc (.cells #[.int .i64 0, .int .i64 0, .int .i64 0, .bool false, .slice none 0 0] 37)) := (Below.refl _ w).alloc (Nat.le_refl _) _
  have hR : Blk (w.alloc (.cells #[.int .i64 0, .int .i64 0, .int .i64 0, .bool false, .slice none 0 0] 37)) w.heap.size 37 [.int .i64 0, .int .i64 0, .int .i64 0, .bool false, .slice none 0 0] := Blk.new w _ _
  go_enter Try.func15, Try.ntmps15
  go_wp2_with fail
  generalize w.alloc (.cells #[.int .i64 0, .int .i64 0, .int .i64 0, .bool false, .slice none 0 0] 37) = wa at *
  (with_reducible refine (nth_nil n wa).mono ?_)
  rintro e w1 ⟨rfl, hb⟩
  have hR2 := hR.kept hb
  have hbw := below_call hal hb
  have hlt2 := hR2.lt
  obtain ⟨r0, r1, r2, r3, r4⟩ := blk5l hR2
  obtain ⟨g0, g1, g2, g3, g4⟩ := frz5l hR2
  go_wp2_with fail
  refine bodyPost_ret (results_cellT rfl _ _ w.heap.size 37 [.int .i64 0, .int .i64 0, .int .i64 0, .bool false, .slice none 0 0] _ rfl ((set5 hR2 _ _ _ _ _).alloc _) Try.underlying37 rfl (by kernel_rfl)) rfl ?_
  exact ⟨rfl, below_al (set5_b hbw (Nat.le_refl _) _ _ _ _ _) _⟩
/-- What a Take leaves. -/
def TakeQ (w : World) (base gf : Nat) (last : Int) (fl : Value) (l : List (Lh × Value)) (xs : List (List UInt8)) (p : Nat) (A' : Option Addr) (k c' : Nat) (bs_ : List UInt8) (wx : World) : Prop :=
  ∃ fl2, Fb wx base gf last fl2 (l.take p ++ l.drop (p + 1)) (xs.take p ++ xs.drop (p + 1)) ∧ wx.ownsRow w.heap.size 5 1 (.slice A' k c') k (bs_.map bv) ∧ Chg w wx (fun b => b = gf ∨ fl.ownBlock = some b) ∧ fl2.ownBlock = fl.ownBlock
set_option maxHeartbeats 1600000 in
theorem take_some (base gf : Nat) (last : Int) (fl : Value) (l : List (Lh × Value)) (xs : List (List UInt8)) (n : Int) (p : Nat) (h : Lh) (A : Option Addr) (k c : Nat) (bs_ : List UInt8) (w : World) (hF : Fb w base gf last fl l xs) (hbs : base ≤ w.heap.size) (h0 : 0 < l.length) (hl : l.length ≤ 4096) (hp : pl n l.length = p) (hv : l[p]? = some (h, .slice A k c)) (hx : xs[p]? = some bs_) (hkl : bs_.length ≤ 4000000) :
    Calls Try.prog 15 #[.pointer (some ⟨gf, 0, none⟩), .int .i64 n] w fun e w' => ∃ A' c', e = .returned (.tuple #[ltv h (.slice A' k c'), .nilIface]) ∧ k ≤ c' ∧ TakeQ w base gf last fl l xs p A' k c' bs_ w' := by
  obtain ⟨id, src, dst, ctl⟩ := h
  have hal : Below w.heap.size w (w.alloc (.cells #[.int .i64 0, .int .i64 0, .int .i64 0, .bool false, .slice none 0 0] 37)) := (Below.refl _ w).alloc (Nat.le_refl _) _
  have hR : Blk (w.alloc (.cells #[.int .i64 0, .int .i64 0, .int .i64 0, .bool false, .slice none 0 0] 37)) w.heap.size 37 [.int .i64 0, .int .i64 0, .int .i64 0, .bool false, .slice none 0 0] := Blk.new w _ _
  have hF1 := hF.below hal
  have hsl := hF.slices
  obtain ⟨g, fc, rfl, hbg, hfc⟩ := hF.form h0
  have hpl := pl_lt n l.length h0
  rw [hp] at hpl
  have hflt := (own_lt hF.own (g := g) rfl).2
  have hgl := hF.blk.lt
  have hws := hal.size
  go_enter Try.func15, Try.ntmps15
  go_wp2_with fail
  generalize w.alloc (.cells #[.int .i64 0, .int .i64 0, .int .i64 0, .bool false, .slice none 0 0] 37) = wa at *
  (with_reducible refine (nth_some base gf last _ l xs n p ⟨id, src, dst, ctl⟩ A k c bs_ wa hF1 h0 hl hp hv hx hkl).mono ?_)
  rintro e w1 ⟨A2, c2, rfl, hc2, hown2, hb1⟩
  have hwa := hR.lt
  have hb2 : Below wa.heap.size wa (w1.alloc (.cells #[.int .i64 id, .int .i64 src, .int .i64 dst, .bool ctl, .slice A2 k c2] 37)) := below_al hb1 _
  have hF2 := hF1.below hb2
  have hR2 := hR.kept hb2
  have hX2 : Blk (w1.alloc (.cells #[.int .i64 id, .int .i64 src, .int .i64 dst, .bool ctl, .slice A2 k c2] 37)) w1.heap.size 37 [.int .i64 id, .int .i64 src, .int .i64 dst, .bool ctl, .slice A2 k c2] := Blk.new w1 _ _
  have hown3 := hown2.alloc (.cells #[.int .i64 id, .int .i64 src, .int .i64 dst, .bool ctl, .slice A2 k c2] 37)
  have hbw := below_call hal hb2
  have hs1 := hb1.size
  clear hv hx hF1 hb1 hb2 hown2 hR
  go_wp2_with fail
  generalize (w1.alloc (.cells #[.int .i64 id, .int .i64 src, .int .i64 dst, .bool ctl, .slice A2 k c2] 37)) = wb at *
  (with_reducible refine (place_p base gf last _ l xs n p wb hF2 h0 hl hp).mono ?_)
  rintro e w3 ⟨rfl, rfl⟩
  have c0 := hF2.blk.cell 0
  simp only [List.getElem?_cons_zero] at c0
  have w4 : IntKind.i64.wrap ((p : Int) + 1) = (p : Int) + 1 := IntWalk.i64_in _ (by omega)
  clear hp
  go_wp2_with fail
  (with_reducible refine (del_any base g l.length fc p _ l w3 hF2.own hsl rfl hpl hl rfl).mono ?_)
  rintro e w5 ⟨rfl, hown5, hg5⟩
  have hF5 := hF2.blk.grown hg5 (fun e => own_blk_ne hF2.own hF2.blk (by decide) gf e.symm rfl)
  have hR5 := hR2.grown hg5 (by intro e; injection e with e; omega)
  have hX5 := hX2.grown hg5 (by intro e; injection e with e; omega)
  have hr5 : Ows w5 base (l.map (·.2)) xs := hF2.rows.chg (Chg.of hg5 (S := fun b => (some b : Option Nat) = some g) (fun b hb => by rw [hb])) (fun v hv b hb e => by
    obtain ⟨x, ho⟩ := hF2.rows.mem hv
    exact own_not_types ho hF2.own (by decide) b hb (by rw [e]; rfl))
  have hown6 : w5.ownsRow wa.heap.size 5 1 (.slice A2 k c2) k (bs_.map bv) := (Chg.of hg5 (S := fun b => (some b : Option Nat) = some g) (fun b hb => by rw [hb])).row hown3 (fun b hb e => own_not_types hown3 hF2.own (by decide) b hb (by rw [e]; rfl))
  have d0 := hF5.cell 0
  have y0 := hF5.frozen 0
  simp only [List.getElem?_cons_zero] at d0
  obtain ⟨r0, r1, r2, r3, r4⟩ := blk5l hR5
  obtain ⟨g0, g1, g2, g3, g4⟩ := frz5l hR5
  obtain ⟨x0, x1, x2, x3, x4⟩ := blk5l hX5
  have hgl5 := hF5.lt
  have hrl5 := hR5.lt
  have hch5 : Chg w w5 (fun b => b = gf ∨ (Value.slice (some ⟨g, 0, none⟩) l.length fc).ownBlock = some b) := (Chg.of_below hbw).fresh hg5 (fun b hb _ => .inr hb)
  go_wp2_with fail
  have hne : gf ≠ w.heap.size := by omega
  have hF6 := hF5.set_ 0 (.slice (some ⟨g, 0, none⟩) (l.length - 1) fc)
  have hR6 : Blk (w5.setCell ⟨gf, 0, none⟩ (.slice (some ⟨g, 0, none⟩) (l.length - 1) fc)) w.heap.size 37 _ := hR5.far (p := ⟨gf, 0, none⟩) (by simp; omega) _
  have hG := set5_g (w5.setCell ⟨gf, 0, none⟩ (.slice (some ⟨g, 0, none⟩) (l.length - 1) fc)) w.heap.size (.int .i64 id) (.int .i64 src) (.int .i64 dst) (.bool ctl) (.slice A2 k c2)
  have hr6 := hr5.set (i := 0) (u := .slice (some ⟨g, 0, none⟩) (l.length - 1) fc) hF5 (by decide)
  have ho6 := set_row (i := 0) (u := .slice (some ⟨g, 0, none⟩) (l.length - 1) fc) hown5 hF5 (by decide)
  have hq6 := set_row (i := 0) (u := .slice (some ⟨g, 0, none⟩) (l.length - 1) fc) hown6 hF5 (by decide)
  have hch6 := hch5.fresh (grown_set w5 gf 0 (.slice (some ⟨g, 0, none⟩) (l.length - 1) fc)) (fun b hb _ => by injection hb with hb; exact .inl hb.symm)
  have hS := Chg.of hG (S := fun b => b = w.heap.size) (fun b hb => by injection hb with hb; exact hb.symm)
  refine bodyPost_ret (results_cellT rfl _ _ w.heap.size 37 [.int .i64 id, .int .i64 src, .int .i64 dst, .bool ctl, .slice A2 k c2] _ rfl (set5 hR6 _ _ _ _ _) Try.underlying37 rfl (by kernel_rfl)) rfl ?_
  refine ⟨A2, c2, rfl, hc2, .slice (some ⟨g, 0, none⟩) (l.length - 1) fc, ⟨?_, ?_, ?_⟩, ?_, ?_, rfl⟩
  · exact hF6.grown hG (by intro e; injection e with e; omega)
  · rw [take_drop_all l p hpl]
    exact hS.row ho6 (fun b hb e => by injection hb with hb; change g = b at hb; omega)
  · have hr7 := hr6.chg hS (fun v hv b hb e => by
      obtain ⟨x, ho⟩ := hr6.mem hv
      exact own_blk_ne ho hR6 (by decide) b hb e)
    rw [List.map_append, List.map_take, List.map_drop]
    exact (hr7.take p).append (hr7.drop (p + 1))
  · exact own_weaken (hS.row hq6 (fun b hb e => own_blk_ne hq6 hR6 (by decide) b hb e)) hws
  · exact hch6.fresh hG (fun b hb hlt => by injection hb with hb; omega)
theorem copy_none (base gf : Nat) (last : Int) (fl : Value) (xs : List (List UInt8)) (n : Int) (w : World) (h : Fb w base gf last fl [] xs) : Calls Try.prog 14 #[.pointer (some ⟨gf, 0, none⟩), .int .i64 n] w fun e w' => e = .returned (.tuple #[.int .i64 0, er 6]) ∧ Below w.heap.size w w' := by
  go_enter Try.func14, Try.ntmps14
  go_wp2_with fail
  (with_reducible refine (nth_none base gf last fl xs n w h).mono ?_)
  rintro e w1 ⟨rfl, hb⟩
  go_wp2_with fail
  go_ret2
  exact ⟨rfl, below_al hb _⟩
theorem copy_nil (n : Int) (w : World) : Calls Try.prog 14 #[.pointer none, .int .i64 n] w fun e w' => e = .returned (.tuple #[.int .i64 0, er 6]) ∧ Below w.heap.size w w' := by
  go_enter Try.func14, Try.ntmps14
  go_wp2_with fail
  (with_reducible refine (nth_nil n w).mono ?_)
  rintro e w1 ⟨rfl, hb⟩
  go_wp2_with fail
  go_ret2
  exact ⟨rfl, below_al hb _⟩
theorem between_nil (a b : Int) (w : World) : Calls Try.prog 20 #[.pointer none, .int .i64 a, .int .i64 b] w fun e w' => e = .returned (.slice none 0 0) ∧ w' = w := by
  go_enter Try.func20, Try.ntmps20
  go_wp2_with fail
  go_ret
  exact ⟨rfl, rfl⟩
theorem waiting_nil (w : World) : Calls Try.prog 21 #[.pointer none] w fun e w' => e = .returned (.slice none 0 0) ∧ w' = w := by
  go_enter Try.func21, Try.ntmps21
  go_wp2_with fail
  go_ret
  exact ⟨rfl, rfl⟩
end Go.Proofs.Ytikichifdkgobaa
