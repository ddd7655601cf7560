/- The document's fabric: the walks of Send, Nth, Copy. -/
import Derived.Test.YtikichifdkgobaaFabRef
namespace Go.Proofs.Ytikichifdkgobaa
set_option linter.unusedVariables false
set_option linter.unusedSimpArgs false
open Go.RowKit

theorem own_atS {w : World} {base n : Nat} {e : TypeId} {size : Nat} {v : Value} {xs : List Value} (h : w.ownsRow base e size v n xs) (h0 : 0 < n) : ∃ g c, v = .slice (some ⟨g, 0, none⟩) n c ∧ base ≤ g ∧ n ≤ c := by
  rcases h.2 with ⟨hv, h1⟩ | ⟨g, cap, cur, hv, hb, hg, hc, _⟩
  · omega
  · exact ⟨g, cap, hv, hb, hc⟩
set_option maxHeartbeats 800000 in
theorem rsend_no (F : Option Addr) (a b : Int) (ctl : Bool) (v : Value) (w : World) (h : ¬ (IsN a ∧ IsN b)) : Calls Try.prog 23 #[.pointer F, .int .i64 a, .int .i64 b, .bool ctl, v] w fun e w' => e = .returned (.tuple #[.int .i64 0, .int .i64 12]) ∧ w' = w := by
  by_cases ha : IsN a
  · have hb : ¬ IsN b := fun hb => h ⟨ha, hb⟩
    clear h
    go_enter Try.func23, Try.ntmps23
    go_wp2_with fail
    (with_reducible refine (ris_yes a _ ha).mono ?_)
    rintro e w1 ⟨rfl, rfl⟩
    go_wp2_with fail
    (with_reducible refine (ris_no b _ hb).mono ?_)
    rintro e w1 ⟨rfl, rfl⟩
    go_wp2_with fail
    go_ret2
    exact ⟨rfl, rfl⟩
  · clear h
    go_enter Try.func23, Try.ntmps23
    go_wp2_with fail
    (with_reducible refine (ris_no a _ ha).mono ?_)
    rintro e w1 ⟨rfl, rfl⟩
    go_wp2_with fail
    go_ret2
    exact ⟨rfl, rfl⟩
set_option maxHeartbeats 800000 in
theorem rsend_some (base gm : Nat) (last : Int) (ml : Value) (l : List (Lh × Value)) (xs : List (List UInt8)) (a b : Int) (ctl : Bool) (bs_ : List UInt8) (A : Option Addr) (n c : Nat) (w : World) (ha : IsN a) (hb : IsN b) (hF : Rb w base gm last ml l xs) (hbs : base ≤ w.heap.size) (hl : l.length < 4096) (hla : 0 ≤ last ∧ last ≤ 1000000) (hn : bs_.length = n) (hR : RB w A bs_) (hc : n ≤ c) (hnl : n ≤ 4000000) :
    Calls Try.prog 23 #[.pointer (some ⟨gm, 0, none⟩), .int .i64 a, .int .i64 b, .bool ctl, .slice A n c] w fun e w' => e = .returned (.tuple #[.int .i64 (last + 1), .int .i64 0]) ∧ RbPut w base gm last ml l xs ⟨0, a, b, ctl⟩ bs_ n w' := by
  have HN := Lib.hid hn
  clear hn
  go_enter Try.func23, Try.ntmps23
  go_wp2_with fail
  (with_reducible refine (ris_yes a _ ha).mono ?_)
  rintro e w1 ⟨rfl, rfl⟩
  go_wp2_with fail
  (with_reducible refine (ris_yes b _ hb).mono ?_)
  rintro e w2 ⟨rfl, rfl⟩
  go_wp2_with fail
  (with_reducible refine (rput_some base gm last ml l xs ⟨0, a, b, ctl⟩ bs_ A n c w2 hF hbs hl hla HN.out hR hc hnl).mono ?_)
  rintro e w3 ⟨rfl, hp3⟩
  go_wp2_with fail
  go_ret2
  exact ⟨rfl, hp3⟩
set_option maxHeartbeats 800000 in
theorem rnth_none (base gm : Nat) (last : Int) (ml : Value) (xs : List (List UInt8)) (n : Int) (w : World) (h : Rb w base gm last ml [] xs) : Calls Try.prog 29 #[.pointer (some ⟨gm, 0, none⟩), .int .i64 n] w fun e w' => e = .returned (.tuple #[ltv ⟨0, 0, 0, false⟩ (.slice none 0 0), .int .i64 6]) ∧ Below w.heap.size w w' := by
  have hal : Below w.heap.size w (w.alloc (.cells #[.int .i64 0, .int .i64 0, .int .i64 0, .bool false, .slice none 0 0] 37)) := (Below.refl _ w).alloc (Nat.le_refl _) _
  have hR : Blk (w.alloc (.cells #[.int .i64 0, .int .i64 0, .int .i64 0, .bool false, .slice none 0 0] 37)) w.heap.size 37 [.int .i64 0, .int .i64 0, .int .i64 0, .bool false, .slice none 0 0] := Blk.new w _ _
  have hF := h.below hal
  have c0 := hF.blk.cell 0
  simp only [List.getElem?_cons_zero] at c0
  obtain ⟨A, c, rfl, -, -, -⟩ := own_formS h.own
  simp only [List.length_nil] at c0
  go_enter Try.func29, Try.ntmps29
  go_wp2_with fail
  generalize (w.alloc (.cells #[.int .i64 0, .int .i64 0, .int .i64 0, .bool false, .slice none 0 0] 37)) = wa at *
  (with_reducible refine (rplace_none n wa).mono ?_)
  rintro e w1 ⟨rfl, rfl⟩
  have hlt2 := hR.lt
  obtain ⟨r0, r1, r2, r3, r4⟩ := blk5l hR
  obtain ⟨g0, g1, g2, g3, g4⟩ := frz5l hR
  go_wp2_with fail
  refine bodyPost_ret (results_cellT rfl _ _ w.heap.size 37 [.int .i64 0, .int .i64 0, .int .i64 0, .bool false, .slice none 0 0] _ rfl (set5 hR _ _ _ _ _) Try.underlying37 rfl (by kernel_rfl)) rfl ?_
  exact ⟨rfl, set5_b hal (Nat.le_refl _) _ _ _ _ _⟩
set_option maxHeartbeats 800000 in
theorem rnth_some (base gm : Nat) (last : Int) (ml : Value) (l : List (Lh × Value)) (xs : List (List UInt8)) (n : Int) (p : Nat) (h : Lh) (A : Option Addr) (k c : Nat) (w : World) (hF : Rb w base gm last ml l xs) (h0 : 0 < l.length) (hl : l.length ≤ 4096) (hp : pl n l.length = p) (hv : l[p]? = some (h, .slice A k c)) :
    Calls Try.prog 29 #[.pointer (some ⟨gm, 0, none⟩), .int .i64 n] w fun e w' => e = .returned (.tuple #[ltv h (.slice A k c), .int .i64 0]) ∧ Below w.heap.size w w' := by
  obtain ⟨id, src, dst, ctl⟩ := h
  have hal : Below w.heap.size w (w.alloc (.cells #[.int .i64 0, .int .i64 0, .int .i64 0, .bool false, .slice none 0 0] 37)) := (Below.refl _ w).alloc (Nat.le_refl _) _
  have hR : Blk (w.alloc (.cells #[.int .i64 0, .int .i64 0, .int .i64 0, .bool false, .slice none 0 0] 37)) w.heap.size 37 [.int .i64 0, .int .i64 0, .int .i64 0, .bool false, .slice none 0 0] := Blk.new w _ _
  have hF1 := hF.below hal
  obtain ⟨g, fc, rfl, hbg, hfc⟩ := own_atS hF.own h0
  have hpl := pl_lt n l.length h0
  rw [hp] at hpl
  have hvl : l[p] = (⟨id, src, dst, ctl⟩, .slice A k c) := by rw [List.getElem?_eq_getElem hpl] at hv; injection hv
  have c0 := hF1.blk.cell 0
  simp only [List.getElem?_cons_zero] at c0
  go_enter Try.func29, Try.ntmps29
  go_wp2_with fail
  generalize (w.alloc (.cells #[.int .i64 0, .int .i64 0, .int .i64 0, .bool false, .slice none 0 0] 37)) = wa at *
  (with_reducible refine (rplace_some n l.length p wa h0 hl hp).mono ?_)
  rintro e w1 ⟨rfl, rfl⟩
  have hcl : ∀ i, i < 5 → w1.cell? ⟨g, p * 5 + i, none⟩ = (ltc ⟨id, src, dst, ctl⟩ (.slice A k c))[i]? := fun i hi => by
    rw [hF1.own.cellAt (p * 5 + i) (by omega), lcs_get l p i hpl hi, hvl]
  have x0 := hcl 0 (by omega)
  have x1 := hcl 1 (by omega)
  have x2 := hcl 2 (by omega)
  have x3 := hcl 3 (by omega)
  have x4 := hcl 4 (by omega)
  simp only [ltc, List.getElem?_cons_zero, List.getElem?_cons_succ, Nat.add_zero] at x0 x1 x2 x3 x4
  have q1 : (p : Int) < (l.length : Int) := by omega
  have q2 : decide ((p : Int) < 0) = false := by simp
  have hlt := hR.lt
  obtain ⟨r0, r1, r2, r3, r4⟩ := blk5l hR
  obtain ⟨g0, g1, g2, g3, g4⟩ := frz5l hR
  clear hcl hv hvl hp
  go_wp2_with fail
  refine bodyPost_ret (results_cellT rfl _ _ w.heap.size 37 [.int .i64 id, .int .i64 src, .int .i64 dst, .bool ctl, .slice A k c] _ rfl (set5 hR _ _ _ _ _) Try.underlying37 rfl (by kernel_rfl)) rfl ?_
  exact ⟨rfl, set5_b hal (Nat.le_refl _) _ _ _ _ _⟩
set_option maxHeartbeats 800000 in
theorem rcopy_none (base gm : Nat) (last : Int) (ml : Value) (xs : List (List UInt8)) (n : Int) (w : World) (h : Rb w base gm last ml [] xs) : Calls Try.prog 28 #[.pointer (some ⟨gm, 0, none⟩), .int .i64 n] w fun e w' => e = .returned (.tuple #[.int .i64 0, .int .i64 6]) ∧ Below w.heap.size w w' := by
  go_enter Try.func28, Try.ntmps28
  go_wp2_with fail
  (with_reducible refine (rnth_none base gm last ml xs n w h).mono ?_)
  rintro e w1 ⟨rfl, hb⟩
  go_wp2_with fail
  go_ret2
  exact ⟨rfl, below_al hb _⟩
set_option maxHeartbeats 800000 in
theorem rcopy_some (base gm : Nat) (last : Int) (ml : Value) (l : List (Lh × Value)) (xs : List (List UInt8)) (n : Int) (p : Nat) (h : Lh) (A : Option Addr) (k c : Nat) (bs_ : List UInt8) (w : World) (hF : Rb w base gm last ml l xs) (hbs : base ≤ w.heap.size) (h0 : 0 < l.length) (hl : l.length < 4096) (hla : 0 ≤ last ∧ last ≤ 1000000) (hp : pl n l.length = p) (hv : l[p]? = some (h, .slice A k c)) (hx : xs[p]? = some bs_) (hk : bs_.length = k) (hkl : k ≤ 4000000) :
    Calls Try.prog 28 #[.pointer (some ⟨gm, 0, none⟩), .int .i64 n] w fun e w' => e = .returned (.tuple #[.int .i64 (last + 1), .int .i64 0]) ∧ ∃ w0, w.heap.size ≤ w0.heap.size ∧ Below w.heap.size w w0 ∧ RbPut w0 base gm last ml l xs h bs_ k w' := by
  have hro := hF.rows.own p (.slice A k c) bs_ (by rw [List.getElem?_map, hv]; rfl) hx
  obtain ⟨A0, c0', e0, hkc, hRB, -⟩ := own_form hro
  injection e0 with e1 e2 e3
  subst e1 e3
  have hRB2 : RB w A bs_ := hRB
  go_enter Try.func28, Try.ntmps28
  go_wp2_with fail
  (with_reducible refine (rnth_some base gm last ml l xs n p h A k c w hF h0 (by omega) hp hv).mono ?_)
  rintro e w1 ⟨rfl, hb1⟩
  have hb2 := below_al hb1 (.cells #[.int .i64 h.id, .int .i64 h.src, .int .i64 h.dst, .bool h.ctl, .slice A k c] 37)
  have hF2 := hF.below hb2
  have hR2 := hRB2.below hb2
  have hX2 : Blk (w1.alloc (.cells #[.int .i64 h.id, .int .i64 h.src, .int .i64 h.dst, .bool h.ctl, .slice A k c] 37)) w1.heap.size 37 [.int .i64 h.id, .int .i64 h.src, .int .i64 h.dst, .bool h.ctl, .slice A k c] := Blk.new w1 _ _
  have hs2 := hb2.size
  have HK := Lib.hid hk
  have hkc2 : k ≤ c := by omega
  clear hF hv hx hk hro hRB hRB2 e2 hkc
  go_wp2_with fail
  generalize (w1.alloc (.cells #[.int .i64 h.id, .int .i64 h.src, .int .i64 h.dst, .bool h.ctl, .slice A k c] 37)) = wb at *
  (with_reducible refine (rput_some base gm last ml l xs h bs_ A k c wb hF2 (by omega) hl hla HK.out hR2 hkc2 hkl).mono ?_)
  rintro e w3 ⟨rfl, hp3⟩
  go_wp2_with fail
  go_ret2
  exact ⟨rfl, wb, hs2, hb2, hp3⟩
end Go.Proofs.Ytikichifdkgobaa
