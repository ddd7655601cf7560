/- The walk of FabricFills. -/
import Derived.Test.YtikichifdkgobaaFabAlive
import Derived.Test.YtikichifdkgobaaOpen
import Derived.Lib.SmallJoins
namespace Go.Proofs.Ytikichifdkgobaa
set_option linter.unusedVariables false
set_option linter.unusedSimpArgs false
open Go.RowKit

theorem er_neq (a b : Int) (w : World) : (binOp .neq 33 (.iface 42 (.int .i64 a)) (.iface 42 (.int .i64 b))).run Try.prog w = .ok (.bool (!(a == b))) w := by
  have hc : (Try.prog.info? 42).map (·.comparable) = some true := by kernel_rfl
  cases hi : Try.prog.info? 42 with
  | none => simp [hi] at hc
  | some i =>
    have hcc : i.comparable = true := by simpa [hi] using hc
    have h : ∀ d : Nat, (Op.equalIn (d + 2) 33 (.iface 42 (.int .i64 a)) (.iface 42 (.int .i64 b))).run Try.prog w = .ok (a == b) w := fun d => by
      simp [Op.equalIn, run_underlying Try.underlying33, run_underlying Try.underlying42, typeInfo, hi, hcc]
    simp only [binOp]
    simp [Op.equal, Op.maxDepth, h 9998]
theorem rb_none {w : World} : RB w none [] := by
  intro j v hv
  simp at hv
theorem copy_full (base gf : Nat) (last : Int) (fl : Value) (l : List (Lh × Value)) (xs : List (List UInt8)) (n : Int) (p : Nat) (h : Lh) (A : Option Addr) (k c : Nat) (bs_ : List UInt8) (w : World) (hF : Fb w base gf last fl l xs) (hl : l.length = 4096) (hp : pl n l.length = p) (hv : l[p]? = some (h, .slice A k c)) (hx : xs[p]? = some bs_) (hkl : bs_.length ≤ 4000000) :
    Calls Try.prog 14 #[.pointer (some ⟨gf, 0, none⟩), .int .i64 n] w fun e w' => e = .returned (.tuple #[.int .i64 0, er 5]) ∧ Below w.heap.size w w' := by
  go_enter Try.func14, Try.ntmps14
  go_wp2_with fail
  (with_reducible refine (nth_some base gf last fl l xs n p h A k c bs_ w hF (by omega) (by omega) hp hv hx hkl).mono ?_)
  rintro e w1 ⟨A2, c2, rfl, hc2, hown2, hb1⟩
  have hb2 := below_al hb1 (.cells #[.int .i64 h.id, .int .i64 h.src, .int .i64 h.dst, .bool h.ctl, .slice A2 k c2] 37)
  have hF2 := hF.below hb2
  have hX2 : Blk (w1.alloc (.cells #[.int .i64 h.id, .int .i64 h.src, .int .i64 h.dst, .bool h.ctl, .slice A2 k c2] 37)) w1.heap.size 37 [.int .i64 h.id, .int .i64 h.src, .int .i64 h.dst, .bool h.ctl, .slice A2 k c2] := Blk.new w1 _ _
  clear hF hown2 hv hx
  go_wp2_with fail
  generalize (w1.alloc (.cells #[.int .i64 h.id, .int .i64 h.src, .int .i64 h.dst, .bool h.ctl, .slice A2 k c2] 37)) = wb at *
  (with_reducible refine (put_full base gf last fl l xs h (.slice A2 k c2) wb hF2 hl).mono ?_)
  rintro e w3 ⟨rfl, hb3⟩
  go_wp2_with fail
  go_ret2
  exact ⟨rfl, below_call hb2 hb3⟩

theorem send_fail (base gf : Nat) (last : Int) (fl : Value) (l : List (Lh × Value)) (xs : List (List UInt8)) (a b : Int) (ctl : Bool) (A : Option Addr) (n c : Nat) (w : World) (hF : Fb w base gf last fl l xs) (hl : l.length = 4096) :
    Calls Try.prog 12 #[.pointer (some ⟨gf, 0, none⟩), .int .i64 a, .int .i64 b, .bool ctl, .slice A n c] w fun e w' => ∃ z, (z = 5 ∨ z = 12) ∧ e = .returned (.tuple #[.int .i64 0, er z]) ∧ Below w.heap.size w w' := by
  by_cases h : IsN a ∧ IsN b
  · exact (send_full base gf last fl l xs a b ctl A n c w h.1 h.2 hF hl).mono fun e w' ⟨he, hb⟩ => ⟨5, .inl rfl, he, hb⟩
  · refine (send_no _ a b ctl _ w h).mono ?_
    rintro e w' ⟨he, rfl⟩
    exact ⟨12, .inr rfl, he, Below.refl _ _⟩
/-- The fabric after k of full's sends. -/
def FillS (w wr : World) (B gf k : Nat) : Prop := ∃ fl l xs, Fb wr B gf (k : Int) fl l xs ∧ l.length = k ∧ (∀ (j : Nat) v, l[j]? = some v → v.1.id = (j : Int) + 1) ∧ (∀ x ∈ xs, x = []) ∧ Below w.heap.size w wr
set_option maxRecDepth 100000 in
set_option maxHeartbeats 3200000 in
theorem full_any (a b n : Int) (ys : List UInt8) (A : Option Addr) (c : Nat) (w : World) (hc : ys.length ≤ c) (hA : RB w A ys) (hl : ys.length ≤ 1048576) :
    Calls Try.prog 18 #[.int .i64 a, .int .i64 b, .slice A ys.length c, .int .i64 n] w fun e w' => e = .returned (.bool true) ∧ Below w.heap.size w w' := by
  go_enter Try.func18, Try.ntmps18
  go_wp2_with fail
  (with_reducible refine (alive_any _).mono ?_)
  rintro e w1 ⟨rfl, hb1⟩
  by_cases h16 : 16 < ys.length
  · go_wp2_with fail
    go_ret
    exact ⟨rfl, hb1⟩
  have f16 : decide ((16 : Int) < (ys.length : Int)) = false := by simp; omega
  go_wp2_with fail
  (with_reducible refine (fnew_any w1).mono ?_)
  rintro e w2 ⟨rfl, hF2, hb2⟩
  have hbw2 := below_call hb1 hb2
  have hBw := hb1.size
  have hA1 := hA
  generalize hBB : w1.heap.size = B at *
  clear hb2
  go_wp2_with fail
  go_loopw [10] (fun i wr => ∃ k : Nat, k ≤ 4096 ∧ i = .int .i64 (k : Int) ∧ FillS w wr B B k) (fun i _ => 4096 - (intOf i).toNat)
  case atStart => exact ⟨0, by omega, rfl, _, [], [], hF2, rfl, by simp, by simp, hbw2⟩
  case round =>
    obtain ⟨k, hk, rfl, fl, l, xs, hF, hlk, hid, hxs, hb⟩ := hrel
    by_cases hlt : k < 4096
    · have w1 : IntKind.i64.wrap (Int.tmod (k : Int) 2) = Int.tmod (k : Int) 2 := IntWalk.i64_in _ (by rw [Int.tmod_eq_emod_of_nonneg (by omega)]; omega)
      have HX := Lib.hid hxs
      have HID := Lib.hid hid
      have HLK := Lib.hid hlk
      clear hid hxs hlk hF2 hbw2
      go_wp2_with fail
      (with_reducible refine (send_i B B (k : Int) ((k : Int) + 1) fl l xs 16 32 _ [] none 0 0 wr rfl (by unfold IsN; omega) (by unfold IsN; omega) hF (Nat.le_of_lt hF.blk.lt) (by have := HLK.out; omega) (by omega) rfl rb_none (by omega) (by omega)).mono ?_)
      rintro e w5 ⟨rfl, A5, c5, fl5, hc5, hF5, hch5, hbs5⟩
      have hb5 := hF.chg_below hb hb.size hBw hBw hch5
      have w2 : IntKind.i64.wrap ((k : Int) + 1) = (k : Int) + 1 := IntWalk.i64_in _ (by omega)
      go_wp2_with fail
      go_roundw
      case rel =>
        refine ⟨k + 1, by omega, by go_num, fl5, _, _, by simpa using hF5, ?_, ?_, ?_, hb5⟩
        · rw [List.length_append, HLK.out]; rfl
        · intro j v hv
          by_cases hj : j < l.length
          · rw [List.getElem?_append_left hj] at hv
            exact HID.out j v hv
          · have hlk := HLK.out
            rw [List.getElem?_append_right (by omega)] at hv
            by_cases hj2 : j = l.length
            · subst hj2
              rw [Nat.sub_self, List.getElem?_cons_zero] at hv
              injection hv with hv
              subst hv
              simp only [hlk]
            · rw [List.getElem?_eq_none (by simp; omega)] at hv
              cases hv
        · intro x hx
          rcases List.mem_append.1 hx with hx | hx
          · exact HX.out x hx
          · simpa using hx
      case measure => simp [intOf]; omega
    · obtain rfl : k = 4096 := by omega
      have hF : Fb wr B B 4096 fl l xs := hF
      have hBlt := Nat.le_of_lt hF.blk.lt
      have hRB := hA.below hb
      have HX := Lib.hid hxs
      have HID := Lib.hid hid
      clear hid hxs hF2 hbw2 hlt
      go_wp2_with fail
      (with_reducible refine (send_full B B 4096 fl l xs 16 32 false A ys.length c wr (by unfold IsN; omega) (by unfold IsN; omega) hF hlk).mono ?_)
      rintro e w5 ⟨rfl, hb5⟩
      have hF5 := hF.below hb5
      have hbw5 := below_call hb hb5
      clear hF
      go_wp2_with fail
      have hpl := pl_lt n l.length (by omega)
      obtain ⟨p, hp⟩ : ∃ p, pl n l.length = p := ⟨_, rfl⟩
      rw [hp] at hpl
      obtain ⟨⟨h, v⟩, hv⟩ : ∃ hv, l[p]? = some hv := ⟨_, List.getElem?_eq_getElem hpl⟩
      obtain ⟨Av, kv, cv, hvv⟩ := hF5.slices (h, v) (List.mem_of_getElem? hv)
      simp only at hvv
      subst hvv
      have hxl : xs.length = l.length := by have := hF5.rows.len; simpa using this.symm
      have hx : xs[p]? = some [] := by
        have := HX.out _ (List.getElem_mem (show p < xs.length by omega))
        rw [List.getElem?_eq_getElem (by omega), this]
      have hhid := HID.out p _ hv
      simp only at hhid
      (with_reducible refine (copy_full B B 4096 fl l xs n p h Av kv cv [] w5 hF5 hlk hp hv hx (by simp)).mono ?_)
      rintro e w6 ⟨rfl, hb6⟩
      have hF6 := hF5.below hb6
      have hbw6 := below_call hbw5 hb6
      clear hF5
      go_wp2_with fail
      (with_reducible refine (send_fail B B 4096 fl l xs a b false A ys.length c w6 hF6 hlk).mono ?_)
      rintro e w7 ⟨z, hz, rfl, hb7⟩
      have hF7 := hF6.below hb7
      have hbw7 := below_call hbw6 hb7
      have hRB7 := hA.below hbw7
      have hs7 := hbw7.size
      have hBs7 : B ≤ w7.heap.size := Nat.le_of_lt hF7.blk.lt
      clear hF6 hRB
      have q5 := er_neq 5 5 w7
      rcases hz with rfl | rfl
      all_goals
        have qz := er_neq 12 5 w7
        have qy := er_neq 12 12 w7
        go_wp2_with fail
        (with_reducible refine (flen_i B B 4096 fl l xs 4096 w7 hF7 (by omega)).mono ?_)
        rintro e w8 ⟨rfl, rfl⟩
        go_wp2_with fail
        (with_reducible refine (take_some B B 4096 fl l xs n p h Av kv cv [] w8 hF7 hBs7 (by omega) (by omega) hp hv hx (by simp)).mono ?_)
        rintro e w9 ⟨A9, c9, rfl, hc9, fl9, hF9, -, hch9, -⟩
        have hb9 := hF7.chg_below hbw7 hbw7.size hBw hBw hch9
        have hb10 := below_al hb9 (.cells #[.int .i64 ((p : Int) + 1), .int .i64 h.src, .int .i64 h.dst, .bool h.ctl, .slice A9 kv c9] 37)
        have hal9 : Below w9.heap.size w9 (w9.alloc (.cells #[.int .i64 ((p : Int) + 1), .int .i64 h.src, .int .i64 h.dst, .bool h.ctl, .slice A9 kv c9] 37)) := (Below.refl _ w9).alloc (Nat.le_refl _) _
        have hX10 : Blk (w9.alloc (.cells #[.int .i64 ((p : Int) + 1), .int .i64 h.src, .int .i64 h.dst, .bool h.ctl, .slice A9 kv c9] 37)) w9.heap.size 37 [.int .i64 ((p : Int) + 1), .int .i64 h.src, .int .i64 h.dst, .bool h.ctl, .slice A9 kv c9] := Blk.new w9 _ _
        have hF10 := hF9.below hal9
        have hs9 : B < w9.heap.size := hF9.blk.lt
        have hfl9 : ∀ q, fl9.ownBlock = some q → q < w9.heap.size := fun q hq => (own_lt hF9.own hq).2
        clear hF9 hF7 hal9
        go_wp2_with fail
        generalize (w9.alloc (.cells #[.int .i64 ((p : Int) + 1), .int .i64 h.src, .int .i64 h.dst, .bool h.ctl, .slice A9 kv c9] 37)) = w10 at *
        have hBs10 : B ≤ w10.heap.size := Nat.le_of_lt hF10.blk.lt
        (with_reducible refine (send_i B B 4096 4097 fl9 _ _ 16 32 true ys A ys.length c w10 rfl (by unfold IsN; omega) (by unfold IsN; omega) hF10 hBs10 (by rw [take_drop_all l p hpl]; omega) (by omega) rfl (hA.below hb10) hc (by omega)).mono ?_)
        rintro e w11 ⟨rfl, A11, c11, fl11, -, -, hch11, -⟩
        have hb11 := hF10.chg_below hb10 hb10.size hBw hBw hch11
        have hX11 := hch11.blk hX10 (by rintro (e | e); omega; have := hfl9 _ e; omega)
        have x0 := hX11.cell 0
        simp only [List.getElem?_cons_zero] at x0
        have hx11 := hX11.lt
        clear hX10 hX11
        go_wp2_with fail
        go_ret
        exact ⟨rfl, hb11⟩

set_option maxHeartbeats 800000 in
theorem FabricFills_at (a b n : Int) (ys : List UInt8) (A : Option Addr) (c : Nat) (w : World) (hc : ys.length ≤ c) (hA : RB w A ys) (hl : ys.length ≤ 1048576) :
    Calls Try.prog 4 #[.agg #[.int .i64 a, .int .i64 b, .slice A ys.length c, .int .i64 n]] w fun e w' => e = .returned (.bool true) ∧ Below w.heap.size w w' := by
  have hal : Below w.heap.size w (w.alloc (.cells #[.int .i64 a, .int .i64 b, .slice A ys.length c, .int .i64 n] 45)) := (Below.refl _ w).alloc (Nat.le_refl _) _
  have hA2 := hA.below hal
  go_enter Try.func4, Try.ntmps4
  go_wp2_with fail
  (with_reducible refine (full_any a b n ys A c _ hc hA2 hl).mono ?_)
  rintro e w2 ⟨rfl, hb2⟩
  have hbw := below_call hal hb2
  go_wp2_with fail
  go_ret
  exact ⟨rfl, hbw⟩
end Go.Proofs.Ytikichifdkgobaa
