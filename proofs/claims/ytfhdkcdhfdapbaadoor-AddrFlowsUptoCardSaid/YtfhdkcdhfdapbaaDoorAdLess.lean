/- The walks of cmp.Compare, cmp.Or, Less, Reverse. -/
import Derived.Test.YtfhdkcdhfdapbaaDoorAdHome
import Derived.Test.YtfhdkcdhfdapbaaDoorFlowEq
import Derived.Deep.RegionHeld3
import Derived.Deep.QuietTactic
import Derived.BigQuiet
namespace Go.Proofs.YtfhdkcdhfdapbaaDoor
set_option linter.unusedVariables false
set_option linter.unusedSimpArgs false
open Go.RowKit Go.Sort

theorem nan_addr (x : Int) (w : World) : Calls Tryd.prog 57 #[.int .u32 x] w fun e w' => e = .returned (.bool false) ∧ w' = w := by
  go_enter Tryd.func57, Tryd.ntmps57
  go_wp2
  go_ret
  exact ⟨by simp [go_sem], rfl⟩
theorem compare_addr (x y : Int) (w : World) : Calls Tryd.prog 45 #[.int .u32 x, .int .u32 y] w fun e w' => e = .returned (.int .i64 (Lib.compareInt x y)) ∧ w' = w := by
  obtain ⟨c, hc⟩ : ∃ c, Lib.compareInt x y = c := ⟨_, rfl⟩
  have HC := Lib.hid hc
  rw [hc]
  unfold Lib.compareInt at hc
  by_cases h1 : x < y
  · have d1 : decide (x < y) = true := decide_eq_true h1
    rw [if_pos h1] at hc
    subst hc
    clear h1
    go_enter Tryd.func45, Tryd.ntmps45
    go_wp2_with (first | (go_at_call 57; refine (nan_addr _ _).mono ?_; rintro e w' ⟨rfl, rfl⟩))
    go_ret
    exact ⟨rfl, rfl⟩
  · have d1 : decide (x < y) = false := decide_eq_false h1
    rw [if_neg h1] at hc
    by_cases h2 : x > y
    · have d2 : decide (y < x) = true := decide_eq_true h2
      rw [if_pos h2] at hc
      subst hc
      clear h1 h2
      go_enter Tryd.func45, Tryd.ntmps45
      go_wp2_with (first | (go_at_call 57; refine (nan_addr _ _).mono ?_; rintro e w' ⟨rfl, rfl⟩))
      go_ret
      exact ⟨rfl, rfl⟩
    · have d2 : decide (y < x) = false := decide_eq_false h2
      rw [if_neg h2] at hc
      subst hc
      clear h1 h2
      go_enter Tryd.func45, Tryd.ntmps45
      go_wp2_with (first | (go_at_call 57; refine (nan_addr _ _).mono ?_; rintro e w' ⟨rfl, rfl⟩))
      go_ret
      exact ⟨rfl, rfl⟩
/-- The first that is not zero. -/
def firstNZ : List Int → Int
  | [] => 0
  | x :: r => if x ≠ 0 then x else firstNZ r
set_option maxHeartbeats 800000 in
theorem or_any (xs : List Int) (A : Option Addr) (n c : Nat) (w : World) (hn : xs.length = n) (hA : RC w A (xs.map (Value.int .i64))) (hl : n ≤ 1000) : Calls Tryd.prog 43 #[.slice A n c] w fun e w' => e = .returned (.int .i64 (firstNZ xs)) ∧ w' = w := by
  have HN := Lib.hid hn
  clear hn
  go_enter Tryd.func43, Tryd.ntmps43
  go_wp2_with fail
  go_loop [8] (fun i => ∃ k : Nat, k ≤ n ∧ i = .int .i64 (k : Int) ∧ Hid (firstNZ xs = firstNZ (xs.drop k))) (fun i => n - (intOf i).toNat)
  case atStart => exact ⟨0, Nat.zero_le _, rfl, rfl⟩
  case round =>
    obtain ⟨k, hk, rfl, HF⟩ := hrel
    by_cases hlt : k < n
    · have hkl : k < xs.length := by rw [HN.out]; exact hlt
      obtain ⟨ad, rfl, hc⟩ := hA k (.int .i64 xs[k]) (by rw [List.getElem?_map, List.getElem?_eq_getElem hkl]; rfl)
      have HD := Lib.hid (List.drop_eq_getElem_cons hkl)
      generalize xs[k] = x at *
      by_cases hx : x = 0
      · subst hx
        have HF2 : Hid (firstNZ xs = firstNZ (xs.drop (k + 1))) := by
          show _ = _
          rw [HF.out, HD.out]
          simp [firstNZ]
        go_wp2_with fail
        go_round
        case rel => exact ⟨k + 1, by omega, by go_num, HF2⟩
        case measure => simp [intOf]; omega
      · have hb : (x != 0) = true := by simpa using hx
        have HR : Hid (firstNZ xs = x) := by
          show _ = _
          rw [HF.out, HD.out]
          simp [firstNZ, hx]
        clear hx
        go_wp2_with fail
        go_ret
        exact ⟨by rw [HR.out]; rfl, rfl⟩
    · obtain rfl : k = n := by omega
      have HR : Hid (firstNZ xs = 0) := by
        show _ = _
        rw [HF.out, List.drop_of_length_le (by rw [HN.out]; exact Nat.le_refl _)]
        rfl
      go_wp2_with fail
      go_ret
      exact ⟨by rw [HR.out]; rfl, rfl⟩
/-- Does f come ahead of g? -/
def lessP (f g : Fl) : Prop := f.proto < g.proto ∨ f.proto = g.proto ∧ (f.src < g.src ∨ f.src = g.src ∧ (f.sp < g.sp ∨ f.sp = g.sp ∧ (f.dst < g.dst ∨ f.dst = g.dst ∧ f.dp < g.dp)))
instance (f g : Fl) : Decidable (lessP f g) := by unfold lessP; infer_instance
def lessB (f g : Fl) : Bool := decide (lessP f g)
theorem cmp_nz (x y : Int) : (Lib.compareInt x y ≠ 0 ↔ x ≠ y) ∧ (Lib.compareInt x y < 0 ↔ x < y) := by
  unfold Lib.compareInt
  split
  · omega
  · split <;> omega
theorem less_or (f g : Fl) : decide (firstNZ [Lib.compareInt f.proto g.proto, Lib.compareInt f.src g.src, Lib.compareInt f.sp g.sp, Lib.compareInt f.dst g.dst, Lib.compareInt f.dp g.dp] < 0) = lessB f g := by
  obtain ⟨a1, b1⟩ := cmp_nz f.proto g.proto
  obtain ⟨a2, b2⟩ := cmp_nz f.src g.src
  obtain ⟨a3, b3⟩ := cmp_nz f.sp g.sp
  obtain ⟨a4, b4⟩ := cmp_nz f.dst g.dst
  obtain ⟨a5, b5⟩ := cmp_nz f.dp g.dp
  unfold lessB lessP
  refine decide_eq_decide.2 ?_
  simp only [firstNZ]
  split
  · omega
  · split
    · omega
    · split
      · omega
      · split
        · omega
        · split <;> omega
theorem set5 {w : World} {g : Nat} {t : TypeId} {a0 a1 a2 a3 a4 : Value} (h : Blk w g t [a0, a1, a2, a3, a4]) (b0 b1 b2 b3 b4 : Value) : Blk (((((w.setCell ⟨g, 0, none⟩ b0).setCell ⟨g, 1, none⟩ b1).setCell ⟨g, 2, none⟩ b2).setCell ⟨g, 3, none⟩ b3).setCell ⟨g, 4, none⟩ b4) g t [b0, b1, b2, b3, b4] := by
  have h := ((((h.set_ 0 b0).set_ 1 b1).set_ 2 b2).set_ 3 b3).set_ 4 b4
  simpa using h
theorem set5_b {a w : World} {B g : Nat} (h : Below B a w) (hg : B ≤ g) (b0 b1 b2 b3 b4 : Value) : Below B a (((((w.setCell ⟨g, 0, none⟩ b0).setCell ⟨g, 1, none⟩ b1).setCell ⟨g, 2, none⟩ b2).setCell ⟨g, 3, none⟩ b3).setCell ⟨g, 4, none⟩ b4) :=
  ((((h.setCell hg _).setCell hg _).setCell hg _).setCell hg _).setCell hg _
theorem blk5 {w : World} {g : Nat} {t : TypeId} {a b c d e : Value} (h : Blk w g t [a, b, c, d, e]) : w.cell? ⟨g, 0, none⟩ = some a ∧ w.cell? ⟨g, 1, none⟩ = some b ∧ w.cell? ⟨g, 2, none⟩ = some c ∧ w.cell? ⟨g, 3, none⟩ = some d ∧ w.cell? ⟨g, 4, none⟩ = some e := ⟨h.cell 0, h.cell 1, h.cell 2, h.cell 3, h.cell 4⟩
theorem frz5 {w : World} {g : Nat} {t : TypeId} {cs : List Value} (h : Blk w g t cs) : w.frozen? ⟨g, 0, none⟩ = false ∧ w.frozen? ⟨g, 1, none⟩ = false ∧ w.frozen? ⟨g, 2, none⟩ = false ∧ w.frozen? ⟨g, 3, none⟩ = false ∧ w.frozen? ⟨g, 4, none⟩ = false := ⟨h.frozen 0, h.frozen 1, h.frozen 2, h.frozen 3, h.frozen 4⟩
abbrev rev (f : Fl) : Fl := ⟨f.proto, f.dst, f.dp, f.src, f.sp⟩
set_option maxHeartbeats 800000 in
theorem reverse_any (f : Fl) (w : World) : Calls Tryd.prog 27 #[flv f] w fun e w' => e = .returned (flv (rev f)) ∧ Below w.heap.size w w' := by
  have hal : Below w.heap.size w ((w.alloc (.cells #[.int .i64 f.proto, .int .u32 f.src, .int .i64 f.sp, .int .u32 f.dst, .int .i64 f.dp] 53)).alloc (.cells #[.int .i64 0, .int .u32 0, .int .i64 0, .int .u32 0, .int .i64 0] 53)) := below_al (below_al (Below.refl _ w) _) _
  have hB0 : Blk ((w.alloc (.cells #[.int .i64 f.proto, .int .u32 f.src, .int .i64 f.sp, .int .u32 f.dst, .int .i64 f.dp] 53)).alloc (.cells #[.int .i64 0, .int .u32 0, .int .i64 0, .int .u32 0, .int .i64 0] 53)) w.heap.size 53 (flc f) := (Blk.new w _ _).alloc _
  have hB1 : Blk ((w.alloc (.cells #[.int .i64 f.proto, .int .u32 f.src, .int .i64 f.sp, .int .u32 f.dst, .int .i64 f.dp] 53)).alloc (.cells #[.int .i64 0, .int .u32 0, .int .i64 0, .int .u32 0, .int .i64 0] 53)) (w.heap.size + 1) 53 [.int .i64 0, .int .u32 0, .int .i64 0, .int .u32 0, .int .i64 0] := blk_new (by simp)
  obtain ⟨p, s, sp_, d, dp⟩ := f
  go_enter Tryd.func27, Tryd.ntmps27
  go_upto_region 1 with (fail)
  generalize ((w.alloc (.cells #[.int .i64 p, .int .u32 s, .int .i64 sp_, .int .u32 d, .int .i64 dp] 53)).alloc (.cells #[.int .i64 0, .int .u32 0, .int .i64 0, .int .u32 0, .int .i64 0] 53)) = wa at *
  obtain ⟨x0, x1, x2, x3, x4⟩ := blk5 hB0
  obtain ⟨y0, y1, y2, y3, y4⟩ := blk5 hB1
  obtain ⟨z0, z1, z2, z3, z4⟩ := frz5 hB1
  have hl := hB1.lt
  go_wp2_with fail
  refine bodyPost_ret (results_cell1 rfl _ _ (w.heap.size + 1) 53 [.int .i64 p, .int .u32 d, .int .i64 dp, .int .u32 s, .int .i64 sp_] _ rfl (set5 hB1 _ _ _ _ _) Tryd.underlying53 rfl (by kernel_rfl)) rfl ?_
  exact ⟨rfl, set5_b hal (by omega) _ _ _ _ _⟩
end Go.Proofs.YtfhdkcdhfdapbaaDoor
