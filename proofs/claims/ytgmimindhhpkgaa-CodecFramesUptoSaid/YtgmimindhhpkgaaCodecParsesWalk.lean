/- The walk of the law CodecParses. -/
import Derived.Test.YtgmimindhhpkgaaAlive06
import Derived.Test.YtgmimindhhpkgaaCopy
namespace Go.Proofs.Ytgmimindhhpkgaa
set_option linter.unusedVariables false
set_option linter.unusedSimpArgs false
open Go.RowKit

theorem below_grown {w w' : World} {row : Option Nat} (hb : Below w.heap.size w w') : w.grownBy w' row := ⟨hb.os, hb.tape, hb.output, hb.size, fun k hk _ => hb.block k hk⟩
/-- What bytes are: a message and 0, or the empty message and 3. -/
def Sol (b : List UInt8) (m : Mg) (en : Int) : Prop := (IsFrame b m ∧ en = 0) ∨ ((∀ m, ¬ IsFrame b m) ∧ m = ⟨0, [], []⟩ ∧ en = 3)
theorem frame_one {b : List UInt8} {m m' : Mg} (h : IsFrame b m) (h' : IsFrame b m') : m = m' := by
  have e := h.2.2
  subst e
  exact frame_inj _ _ h h'
theorem sol_one {b : List UInt8} {m m' : Mg} {k k' : Int} (h : Sol b m k) (h' : Sol b m' k') : m = m' ∧ k = k' := by
  rcases h with ⟨h1, rfl⟩ | ⟨h1, rfl, rfl⟩
  · rcases h' with ⟨h2, rfl⟩ | ⟨h2, rfl, rfl⟩
    · exact ⟨frame_one h1 h2, rfl⟩
    · exact absurd h1 (h2 _)
  · rcases h' with ⟨h2, rfl⟩ | ⟨h2, rfl, rfl⟩
    · exact absurd h2 (h1 _)
    · exact ⟨rfl, rfl⟩
/-- A Parse's answer. -/
theorem parse_cases {base : Nat} {b : List UInt8} {ok bad : Value} {e : Ending} {w : World} (h : ParsePost base b ok bad e w) :
    ∃ (m : Mg) (en : Int) (x : Value) (k : Int) (A : Option Addr) (n c : Nat) (B : Option Addr) (l d : Nat), e = .returned (.tuple #[.agg #[.int .i64 k, .slice A n c, .slice B l d], x]) ∧ ((en = 0 ∧ x = ok) ∨ (en = 3 ∧ x = bad)) ∧ Sol b m en ∧
      m.nums.length ≤ 40 ∧ MgV w (.agg #[.int .i64 k, .slice A n c, .slice B l d]) m ∧ ∀ g w', g < base → w.grownBy w' (some g) → MgV w' (.agg #[.int .i64 k, .slice A n c, .slice B l d]) m := by
  by_cases hx : ∃ m, IsFrame b m
  · obtain ⟨m, hm⟩ := hx
    obtain ⟨v, e1, hv⟩ := h.1 m hm
    have ha := hv.arg hm.2.1 (isframe_I64 hm)
    obtain ⟨A, c, B, d, rfl, _⟩ := id ha
    refine ⟨m, 0, ok, _, _, _, _, _, _, _, e1, .inl ⟨rfl, rfl⟩, .inl ⟨hm, rfl⟩, hm.1.2.1, ha, fun g w' hg hgr => ?_⟩
    obtain ⟨vn, vd, ev, h1, h2⟩ := hv
    have h1' := h1.kept hgr (own_ne hg h1)
    have h2' := h2.kept hgr (own_ne hg h2)
    exact MgO.arg (base := base) ⟨vn, vd, ev, h1', h2'⟩ hm.2.1 (isframe_I64 hm)
  · have hno : ∀ m, ¬ IsFrame b m := fun m hm => hx ⟨m, hm⟩
    exact ⟨⟨0, [], []⟩, 3, bad, 0, none, 0, 0, none, 0, 0, h.2 hno, .inr ⟨rfl, rfl⟩, .inr ⟨hno, rfl, rfl⟩, by simp, mg0_arg w, fun g w' _ _ => mg0_arg w'⟩
theorem num_of {en : Int} {x : Value} (h : (en = 0 ∧ x = .nilIface) ∨ (en = 3 ∧ x = er 3)) (w : World) : Calls Try.prog 15 #[x] w fun e w' => e = .returned (.int .i64 en) ∧ w' = w := by
  rcases h with ⟨rfl, rfl⟩ | ⟨rfl, rfl⟩
  · exact num_nil w
  · exact num_er 3 (by omega) w

set_option maxHeartbeats 3200000 in
theorem CodecParses_walk (x0 : List UInt8) (A0 : Option Addr) (c0 : Nat) (w : World)
    (l0 : x0.length ≤ c0) (r0 : RB w A0 x0) (n0 : x0.length ≤ 1048576) :
    Calls Try.prog 4 #[.slice A0 x0.length c0] w fun e w' => e = .returned (.bool true) ∧ Below w.heap.size w w' := by
  go_enter Try.func4, Try.ntmps4
  go_wp2_with fail
  refine (alive06_any w).mono ?_
  rintro e w1 ⟨rfl, hb1⟩
  go_wp2_with fail
  refine (large_any _ w1).mono ?_
  rintro e w1' ⟨rfl, rfl⟩
  by_cases hl : (131072 : Int) < (x0.length : Int)
  · rw [show decide ((131072 : Int) < (x0.length : Int)) = true from decide_eq_true hl]
    go_wp2_with fail
    go_ret
    exact ⟨rfl, hb1⟩
  · rw [show decide ((131072 : Int) < (x0.length : Int)) = false from decide_eq_false hl]
    have hl2 : x0.length ≤ 131072 := by omega
    clear hl n0
    go_wp2_with fail
    refine (copy_any x0 A0 c0 w1' (r0.below hb1) l0 (by omega)).mono ?_
    rintro e w2 ⟨g0, rfl, hg0, hG0, hb2'⟩
    have hb2 : Below w.heap.size w w2 := hb1.trans (hb2'.mono hb1.size)
    have hs1 := hb1.size
    have hs2 := hG0.lt
    clear hb2' hb1
    go_wp2_with fail
    refine (parse_any x0 (some ⟨g0, 0, none⟩) (x0.length + 2) w2 (marked_rb hG0) (by omega) (by omega)).mono ?_
    rintro e w3 ⟨hp, hb3⟩
    obtain ⟨m, en, x, k3, A3, n3, d3, B3, e3, f3, rfl, hx, hsol, hm40, hv, hkeep⟩ := parse_cases hp
    have hG3 := hG0.kept hb3
    have hb3' := hb2.trans (hb3.mono hb2.size)
    have hs3 := hb3.size
    clear hp hG0 hb2 hb3
    go_wp2_with fail
    have hw4 : Below w.heap.size w (w3.alloc (.cells #[.int .i64 k3, .slice A3 n3 d3, .slice B3 e3 f3] 25)) := hb3'.alloc (by omega) _
    refine (rparse_any x0 A0 c0 _ (r0.below hw4) l0 (by omega)).mono ?_
    rintro e w5 ⟨hp, hb5⟩
    obtain ⟨m', en', x', k5, A5, n5, d5, B5, e5, f5, rfl, hx', hsol', -, hv', hkeep'⟩ := parse_cases hp
    obtain ⟨rfl, rfl⟩ := sol_one hsol hsol'
    obtain rfl : x' = iv en := by rcases hx' with ⟨rfl, rfl⟩ | ⟨rfl, rfl⟩ <;> rfl
    clear hp hx' hsol' hsol
    have hX : Blk (w5.alloc (.cells #[.int .i64 k5, .slice A5 n5 d5, .slice B5 e5 f5] 25)) w3.heap.size 25 [.int .i64 k3, .slice A3 n3 d3, .slice B3 e3 f3] := ((Blk.new w3 _ _).kept hb5).alloc _
    have hY : Blk (w5.alloc (.cells #[.int .i64 k5, .slice A5 n5 d5, .slice B5 e5 f5] 25)) w5.heap.size 25 [.int .i64 k5, .slice A5 n5 d5, .slice B5 e5 f5] := Blk.new w5 _ _
    have hbw5 : Below w.heap.size w w5 := hw4.trans (hb5.mono hw4.size)
    have hb36 : Below w3.heap.size w3 (w5.alloc (.cells #[.int .i64 k5, .slice A5 n5 d5, .slice B5 e5 f5] 25)) := (((Below.refl _ w3).alloc (Nat.le_refl _) _).trans (hb5.mono (by simp))).alloc (by have := hb5.size; simp at this; omega) _
    have hb6 : Below w.heap.size w (w5.alloc (.cells #[.int .i64 k5, .slice A5 n5 d5, .slice B5 e5 f5] 25)) := hbw5.alloc hbw5.size _
    have hv6' := hv'.below ((Below.refl _ w5).alloc (Nat.le_refl _) (.cells #[.int .i64 k5, .slice A5 n5 d5, .slice B5 e5 f5] 25))
    have hb56 : Below w5.heap.size w5 (w5.alloc (.cells #[.int .i64 k5, .slice A5 n5 d5, .slice B5 e5 f5] 25)) := (Below.refl _ w5).alloc (Nat.le_refl _) _
    have hs35 : w3.heap.size < w5.heap.size := by have := hb5.size; simp at this; omega
    have hv6 := hv.below hb36
    have hgr36 := below_grown (row := some g0) hb36
    have hgr56 := below_grown (row := some g0) hb56
    have hG6 := hG3.kept hb36
    have HK := Lib.hid hkeep
    have HK' := Lib.hid hkeep'
    have HG0 : Hid (g0 < (w3.alloc (.cells #[.int .i64 k3, .slice A3 n3 d3, .slice B3 e3 f3] 25)).heap.size) := by show g0 < _; simp; omega
    clear hw4 hb5 hkeep hkeep' hb36 hb56 hv hv' hG3 hb3'
    go_upto_region 8 with fail
    generalize w5.alloc (.cells #[.int .i64 k5, .slice A5 n5 d5, .slice B5 e5 f5] 25) = w6 at *
    generalize w3.heap.size = g3 at *
    generalize w5.heap.size = g5 at *
    obtain ⟨cX0, cX1, cX2⟩ := blk3 hX
    obtain ⟨cY0, cY1, cY2⟩ := blk3 hY
    go_wp2_with fail
    refine (rsame_any m m _ _ w6 hv6 hv6' (by omega)).mono ?_
    rintro e w7 ⟨rfl, hb7⟩
    rw [(same_iff m m).2 rfl]
    have hX7 := hX.kept hb7
    have hY7 := hY.kept hb7
    have hG7 := hG6.kept hb7
    have hv7 := hv6.below hb7
    have hv7' := hv6'.below hb7
    have hgr37 := hgr36.trans (below_grown hb7)
    have hgr57 := hgr56.trans (below_grown hb7)
    have hb67 := hb6.trans (hb7.mono hb6.size)
    clear hX hY hG6 hgr36 hgr56 hv6 hv6' cX0 cX1 cX2 cY0 cY1 cY2 hb7 hb6
    go_wp2_with fail
    refine (num_of hx w7).mono ?_
    rintro e w7' ⟨rfl, rfl⟩
    go_wp2_with fail
    refine (kept_any x0 g0 A0 c0 w7' (r0.below hb67) hG7 (by omega)).mono ?_
    rintro e w8 ⟨rfl, hb8⟩
    have hX8 := hX7.kept hb8
    have hY8 := hY7.kept hb8
    have hG8 := hG7.kept hb8
    have hgr38 := hgr37.trans (below_grown hb8)
    have hgr58 := hgr57.trans (below_grown hb8)
    have hb68 := hb67.trans (hb8.mono hb67.size)
    clear hX7 hY7 hG7 hgr37 hgr57 hv7 hv7' hb8 hb67
    go_wp2_with fail
    refine (over_any (marked x0) g0 (x0.length + 2) x0.length (by simp [marked]) (by omega) w8 hG8).mono ?_
    rintro e w9 ⟨⟨v9, rfl⟩, hgr9⟩
    have hb9 : Below w.heap.size w w9 := grown_below hb68 hgr9 (by omega)
    have hX9 := hX8.grown hgr9 (by simp; omega)
    have hY9 := hY8.grown hgr9 (by simp; omega)
    have hv9 := HK.out g0 w9 hs2 (hgr38.trans hgr9)
    have hv9' := HK'.out g0 w9 HG0.out (hgr58.trans hgr9)
    obtain ⟨cX0, cX1, cX2⟩ := blk3 hX9
    obtain ⟨cY0, cY1, cY2⟩ := blk3 hY9
    clear hX8 hY8 hG8 hgr38 hgr58 HK HK' hgr9 hb68
    go_wp2_with fail
    refine (rsame_any m m _ _ w9 hv9 hv9' (by omega)).mono ?_
    rintro e w10 ⟨rfl, hb10⟩
    rw [(same_iff m m).2 rfl]
    go_wp2_with fail
    go_ret
    exact ⟨rfl, hb9.trans (hb10.mono hb9.size)⟩
end Go.Proofs.Ytgmimindhhpkgaa
