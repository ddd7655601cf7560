/- Letters and the fabric: their place in memory; the walks of own, put, Send, Len. -/
import Derived.Test.YtikichifdkgobaaKind
import Derived.Test.YtikichifdkgobaaClone
import Derived.Test.YtikichifdkgobaaChg
import Derived.Test.YtikichifdkgobaaEr
import Derived.Test.YtikichifdkgobaaSumPure
import Derived.Deep.QuietTactic
import Derived.BigQuiet
import Derived.Deep.CutBlock
import Derived.Deep.DeepCutAuto
namespace Go.Proofs.Ytikichifdkgobaa
set_option linter.unusedVariables false
set_option linter.unusedSimpArgs false
open Go.RowKit

/-- A letter but its bytes. -/
structure Lh where
  id : Int
  src : Int
  dst : Int
  ctl : Bool
/-- A letter's cells. -/
def ltc (h : Lh) (v : Value) : List Value := [.int .i64 h.id, .int .i64 h.src, .int .i64 h.dst, .bool h.ctl, v]
abbrev ltv (h : Lh) (v : Value) : Value := .agg #[.int .i64 h.id, .int .i64 h.src, .int .i64 h.dst, .bool h.ctl, v]
theorem blk5l {w : World} {g : Nat} {t : TypeId} {a0 a1 a2 a3 a4 : Value} (h : Blk w g t [a0, a1, a2, a3, a4]) :
    w.cell? ⟨g, 0, none⟩ = some a0 ∧ w.cell? ⟨g, 1, none⟩ = some a1 ∧ w.cell? ⟨g, 2, none⟩ = some a2 ∧ w.cell? ⟨g, 3, none⟩ = some a3 ∧ w.cell? ⟨g, 4, none⟩ = some a4 := ⟨h.cell 0, h.cell 1, h.cell 2, h.cell 3, h.cell 4⟩
theorem frz5l {w : World} {g : Nat} {t : TypeId} {cs : List Value} (h : Blk w g t cs) :
    w.frozen? ⟨g, 0, none⟩ = false ∧ w.frozen? ⟨g, 1, none⟩ = false ∧ w.frozen? ⟨g, 2, none⟩ = false ∧ w.frozen? ⟨g, 3, none⟩ = false ∧ w.frozen? ⟨g, 4, none⟩ = false := ⟨h.frozen 0, h.frozen 1, h.frozen 2, h.frozen 3, h.frozen 4⟩
theorem clone_n (xs : List UInt8) (A : Option Addr) (n c : Nat) (w : World) (hn : xs.length = n) (hA : RB w A xs) (hc : n ≤ c) (hl : n ≤ 4000000) :
    Calls Try.prog 42 #[.slice A n c] w fun e w' => ∃ A' c', e = .returned (.slice A' n c') ∧ n ≤ c' ∧ w'.ownsRow w.heap.size 5 1 (.slice A' n c') n (xs.map bv) ∧ Below w.heap.size w w' := by
  subst hn
  exact (clone_any xs A c w hA hc hl).mono fun e w' ⟨v, he, ho, hb⟩ => by
    obtain ⟨A', c', rfl, hc', -, -⟩ := own_form ho
    exact ⟨A', c', he, hc', ho, hb⟩
set_option maxHeartbeats 800000 in
theorem own_any (h : Lh) (xs : List UInt8) (A : Option Addr) (n c : Nat) (w : World) (hn : xs.length = n) (hA : RB w A xs) (hc : n ≤ c) (hl : n ≤ 4000000) :
    Calls Try.prog 36 #[ltv h (.slice A n c)] w fun e w' => ∃ A' c', e = .returned (ltv h (.slice A' n c')) ∧ n ≤ c' ∧ w'.ownsRow w.heap.size 5 1 (.slice A' n c') n (xs.map bv) ∧ Below w.heap.size w w' := by
  obtain ⟨id, src, dst, ctl⟩ := h
  have HN := Lib.hid hn
  clear hn
  go_enter Try.func36, Try.ntmps36
  go_wp2_with fail
  have hX : Blk ((w.alloc (.cells #[.int .i64 id, .int .i64 src, .int .i64 dst, .bool ctl, .slice A n c] 37)).alloc (.cells #[.int .i64 0, .int .i64 0, .int .i64 0, .bool false, .slice none 0 0] 37)) w.heap.size 37 [.int .i64 id, .int .i64 src, .int .i64 dst, .bool ctl, .slice A n c] := (Blk.new w _ _).alloc _
  have hR : Blk ((w.alloc (.cells #[.int .i64 id, .int .i64 src, .int .i64 dst, .bool ctl, .slice A n c] 37)).alloc (.cells #[.int .i64 0, .int .i64 0, .int .i64 0, .bool false, .slice none 0 0] 37)) (w.heap.size + 1) 37 [.int .i64 0, .int .i64 0, .int .i64 0, .bool false, .slice none 0 0] := blk_new (by simp)
  have hb0 : Below w.heap.size w ((w.alloc (.cells #[.int .i64 id, .int .i64 src, .int .i64 dst, .bool ctl, .slice A n c] 37)).alloc (.cells #[.int .i64 0, .int .i64 0, .int .i64 0, .bool false, .slice none 0 0] 37)) := below_al ((Below.refl _ w).alloc (Nat.le_refl _) _) _
  generalize (w.alloc (.cells #[.int .i64 id, .int .i64 src, .int .i64 dst, .bool ctl, .slice A n c] 37)).alloc (.cells #[.int .i64 0, .int .i64 0, .int .i64 0, .bool false, .slice none 0 0] 37) = wa at *
  have hws := hb0.size
  (with_reducible refine (clone_n xs A n c wa HN.out (hA.below hb0) hc hl).mono ?_)
  rintro e w1 ⟨A1, c1, rfl, hc1, hown, hb1⟩
  have hX1 := hX.kept hb1
  have hR1 := hR.kept hb1
  have hbw := below_call hb0 hb1
  obtain ⟨x0, x1, x2, x3, x4⟩ := blk5l hX1
  obtain ⟨f0, f1, f2, f3, f4⟩ := frz5l hX1
  obtain ⟨r0, r1, r2, r3, r4⟩ := blk5l hR1
  obtain ⟨g0, g1, g2, g3, g4⟩ := frz5l hR1
  have hgl1 := hX1.lt
  have hgl2 := hR1.lt
  have hlt := hR.lt
  clear hX hR
  go_wp2_with fail
  have hR2 : Blk (w1.setCell ⟨w.heap.size, 4, none⟩ (.slice A1 n c1)) (w.heap.size + 1) 37 [.int .i64 0, .int .i64 0, .int .i64 0, .bool false, .slice none 0 0] := hR1.far (by simp) _
  have hfin := ((((hR2.set_ 0 (.int .i64 id)).set_ 1 (.int .i64 src)).set_ 2 (.int .i64 dst)).set_ 3 (.bool ctl)).set_ 4 (.slice A1 n c1)
  refine bodyPost_ret (results_cell1 rfl _ _ (w.heap.size + 1) 37 [.int .i64 id, .int .i64 src, .int .i64 dst, .bool ctl, .slice A1 n c1] _ rfl (by simpa using hfin) Try.underlying37 rfl (by kernel_rfl)) rfl ?_
  refine ⟨A1, c1, rfl, hc1, own_weaken (own_set (by omega) (own_set (by omega) (own_set (by omega) (own_set (by omega) (own_set (by omega) (own_set (by omega) hown)))))) hws, ?_⟩
  exact (((((hbw.setCell (by simp) _).setCell (by simp) _).setCell (by simp) _).setCell (by simp) _).setCell (by simp) _).setCell (by simp) _

/-- Letters in a row. -/
def lcs (l : List (Lh × Value)) : List Value := l.flatMap fun p => ltc p.1 p.2
theorem lcs_length (l : List (Lh × Value)) : (lcs l).length = l.length * 5 := by
  induction l with
  | nil => rfl
  | cons p r ih => simp only [lcs, List.flatMap_cons, List.length_append, List.length_cons] at ih ⊢; rw [ih]; simp [ltc]; omega
theorem lcs_append (l r : List (Lh × Value)) : lcs (l ++ r) = lcs l ++ lcs r := by simp [lcs]
theorem lcs_take (l : List (Lh × Value)) (i : Nat) : (lcs l).take (i * 5) = lcs (l.take i) := by
  by_cases h : i ≤ l.length
  · have e : l = l.take i ++ l.drop i := (List.take_append_drop i l).symm
    have h2 : (lcs (l.take i)).length = i * 5 := by rw [lcs_length, List.length_take]; omega
    rw [e, lcs_append, ← h2, List.take_left, ← e]
  · rw [List.take_of_length_le (by rw [lcs_length]; omega), List.take_of_length_le (by omega)]
theorem lcs_drop (l : List (Lh × Value)) (i : Nat) : (lcs l).drop (i * 5) = lcs (l.drop i) := by
  by_cases h : i ≤ l.length
  · have e : l = l.take i ++ l.drop i := (List.take_append_drop i l).symm
    have h2 : (lcs (l.take i)).length = i * 5 := by rw [lcs_length, List.length_take]; omega
    rw [e, lcs_append, ← h2, List.drop_left, ← e]
  · rw [List.drop_of_length_le (by rw [lcs_length]; omega), List.drop_of_length_le (by omega)]
    rfl
theorem lcs_get (l : List (Lh × Value)) (j i : Nat) (hj : j < l.length) (hi : i < 5) : (lcs l)[j * 5 + i]? = (ltc l[j].1 l[j].2)[i]? := by
  have h1 : (lcs l)[j * 5 + i]? = ((lcs l).drop (j * 5))[i]? := by rw [List.getElem?_drop]
  rw [h1, lcs_drop, List.drop_eq_getElem_cons hj]
  simp only [lcs, List.flatMap_cons]
  rw [List.getElem?_append_left (by simp [ltc]; omega)]
theorem lcs_one (l : List (Lh × Value)) : ∀ u ∈ lcs l, (∀ p ∈ l, ∃ A n c, p.2 = .slice A n c) → u.oneCell' = true := by
  intro u hu h
  simp only [lcs, List.mem_flatMap] at hu
  obtain ⟨p, hp, hu⟩ := hu
  obtain ⟨A, n, c, e⟩ := h p hp
  simp only [ltc, e, List.mem_cons, List.not_mem_nil, or_false] at hu
  rcases hu with rfl | rfl | rfl | rfl | rfl <;> rfl

/-- A fabric behind a pointer. -/
structure Fb (w : World) (base gf : Nat) (last : Int) (fl : Value) (l : List (Lh × Value)) (xs : List (List UInt8)) : Prop where
  blk : Blk w gf 69 [fl, .int .i64 last]
  own : w.ownsRow base 37 5 fl l.length (lcs l)
  rows : Ows w base (l.map (·.2)) xs
end Go.Proofs.Ytikichifdkgobaa
