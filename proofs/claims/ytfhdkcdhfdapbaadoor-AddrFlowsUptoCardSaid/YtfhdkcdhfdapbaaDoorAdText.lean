/- The walks of bytesOf and Text. -/
import Derived.Test.YtfhdkcdhfdapbaaDoorAdLaid
import Derived.Test.YtfhdkcdhfdapbaaDoorOpen
import Derived.Test.YtfhdkcdhfdapbaaDoorGrow
namespace Go.Proofs.YtfhdkcdhfdapbaaDoor
set_option linter.unusedVariables false
set_option linter.unusedSimpArgs false
open Go.RowKit Go.Sort

theorem tab_below {P : Program} {n : String} {g : Nat} {k : IntKind} {zs : List Int} {w w' : World} (hg : P.globalNamed n = some g) (h : Lib.TabIs P w n k zs) (hb : Below w.heap.size w w') : Lib.TabIs P w' n k zs := by
  unfold Lib.TabIs World.var? at h ⊢
  rw [hg] at h ⊢
  simp only [Option.bind_some] at h ⊢
  have hlt : g < w.heap.size := by
    rcases Nat.lt_or_ge g w.heap.size with h' | h'
    · exact h'
    · rw [Array.getElem?_eq_none h'] at h; cases h
  rw [hb.block g hlt]
  exact h
theorem Gd.below {w w' : World} (h : Gd w) (hb : Below w.heap.size w w') : Gd w' := by
  obtain ⟨m, hm⟩ := h.m
  obtain ⟨t0, p0, h0⟩ := h.syn
  obtain ⟨t1, p1, h1⟩ := h.rng
  exact ⟨⟨m, cell_keep hb hm⟩, tab_below gPow h.tab hb, ⟨t0, p0, cell_keep hb h0⟩, ⟨t1, p1, cell_keep hb h1⟩⟩
theorem bytesOf_any (a : Nat) (w : World) (h : a < 4294967296) : Calls Tryd.prog 37 #[.int .u32 (a : Int)] w fun e w' => e = .returned (.agg #[.int .u8 ((a / 16777216 : Nat) : Int), .int .u8 ((a / 65536 % 256 : Nat) : Int), .int .u8 ((a / 256 % 256 : Nat) : Int), .int .u8 ((a % 256 : Nat) : Int)]) ∧ Below w.heap.size w w' := by
  go_enter Tryd.func37, Tryd.ntmps37
  go_wp2
  refine bodyPost_ret (results_cell1 rfl _ _ w.heap.size 67 [.int .u8 ((a : Int) / 16777216), .int .u8 ((a : Int) / 65536 % 256), .int .u8 ((a : Int) / 256 % 256), .int .u8 ((a : Int) % 256)] _ rfl (Blk.new w _ _) Tryd.underlying67 rfl (by kernel_rfl)) rfl ?_
  exact ⟨by simp, (Below.refl _ w).alloc (Nat.le_refl _) _⟩

/-- An address's bytes, the highest first. -/
def adB (a i : Nat) : Nat := if i = 0 then a / 16777216 else if i = 1 then a / 65536 % 256 else if i = 2 then a / 256 % 256 else a % 256
theorem adB_lt (a i : Nat) (h : a < 4294967296) : adB a i < 256 := by unfold adB; split <;> (try split) <;> (try split) <;> omega
/-- The numeral of a byte. -/
def numL (n : Nat) : List UInt8 := Lib.decDigits n
theorem itoa_nat (n : Nat) : Lib.itoa (n : Int) = numL n := by
  unfold Lib.itoa numL
  rw [if_neg (by omega), Int.toNat_natCast]
def textL (a : Nat) : List UInt8 := Lib.join [numL (adB a 0), numL (adB a 1), numL (adB a 2), numL (adB a 3)] [46]
theorem numL_len (n : Nat) (h : n < 256) : (numL n).length ≤ 3 := by
  unfold numL
  unfold Lib.decDigits
  split
  · simp
  · rw [List.length_append]
    unfold Lib.decDigits
    split
    · simp
    · rw [List.length_append]
      unfold Lib.decDigits
      rw [dif_pos (by omega)]
      simp
theorem info_str : (Tryd.prog.info? 9).map (fun i => (i.zero, i.size, i.bytes)) = some (some (.string ByteArray.empty), 1, 16) := by kernel_rfl
abbrev strOf (l : List UInt8) : ByteArray := ⟨l.toArray⟩
theorem below_grow (w : World) (q : Nat) (os : Array Obj) : Below w.heap.size w (grow (w.drewN q) os) := by
  refine ⟨rfl, rfl, rfl, by simp [grow, World.drewN], fun k hk => ?_⟩
  show (w.heap ++ os)[k]? = w.heap[k]?
  rw [Array.getElem?_append_left hk]
theorem itoa_any (n : Nat) (w : World) (h : n < 256) (hG : Gd w) : Calls Tryd.prog 36 #[.int .i64 (n : Int)] w fun e w' => e = .returned (.string (strOf (numL n))) ∧ Below w.heap.size w w' :=
  (Tryd.strconv_Itoa (n : Int) (by omega) (by omega) w hG.tab).mono fun e w' ⟨he, k, os, hw⟩ => ⟨by rw [he, itoa_nat], by rw [hw]; exact below_grow w k os⟩
theorem own_atS1 {w : World} {base n : Nat} {e : TypeId} {v : Value} {xs : List Value} (h : w.ownsRow base e 1 v n xs) (h0 : 0 < n) : ∃ g c, v = .slice (some ⟨g, 0, none⟩) n c ∧ base ≤ g ∧ n ≤ c := by
  rcases h.2 with ⟨hv, h1⟩ | ⟨g, cap, cur, hv, hb, hg, hc, _⟩
  · omega
  · exact ⟨g, cap, hv, hb, hc⟩
theorem join4_any (x0 x1 x2 x3 : ByteArray) (g c : Nat) (w : World) (hcells : ∀ (j : Nat) x, [x0, x1, x2, x3][j]? = some x → w.cell? ⟨g, 0 + j, none⟩ = some (.string x)) (hg : g < w.heap.size) (hc : 4 ≤ c) (hln : (Lib.join ([x0, x1, x2, x3].map (·.data.toList)) [46]).length ≤ 140737488355328) :
    Calls Tryd.prog 38 #[.slice (some ⟨g, 0, none⟩) 4 c, .string ⟨#[46]⟩] w fun e w' => e = .returned (.string (strOf (Lib.join [x0.data.toList, x1.data.toList, x2.data.toList, x3.data.toList] [46]))) ∧ Below w.heap.size w w' :=
  (Tryd.strings_Join g 0 c [x0, x1, x2, x3] ⟨#[46]⟩ w hcells hg (by simp) hc hln).mono fun e w' ⟨he, hb⟩ => ⟨he, hb⟩
def parts4 (a : Nat) (k : Nat) : List Value := ([0, 1, 2, 3].take k).map fun i => .string (strOf (numL (adB a i)))
set_option maxRecDepth 100000 in
set_option maxHeartbeats 1600000 in
theorem text_any (a : Nat) (w : World) (h : a < 4294967296) (hG : Gd w) : Calls Tryd.prog 12 #[.int .u32 (a : Int)] w fun e w' => e = .returned (.string (strOf (textL a))) ∧ Below w.heap.size w w' := by
  obtain ⟨i0, hi, hz0, hz1, hz2⟩ := info_parts info_str
  go_enter Tryd.func12, Tryd.ntmps12
  go_wp2_with fail
  (with_reducible refine (bytesOf_any a w h).mono ?_)
  rintro e w1 ⟨rfl, hb1⟩
  obtain ⟨b0, hb0⟩ : ∃ b : Nat, b = adB a 0 := ⟨_, rfl⟩
  obtain ⟨b1, hb1'⟩ : ∃ b : Nat, b = adB a 1 := ⟨_, rfl⟩
  obtain ⟨b2, hb2'⟩ : ∃ b : Nat, b = adB a 2 := ⟨_, rfl⟩
  obtain ⟨b3, hb3'⟩ : ∃ b : Nat, b = adB a 3 := ⟨_, rfl⟩
  have e0 : a / 16777216 = b0 := hb0.symm
  have e1 : a / 65536 % 256 = b1 := hb1'.symm
  have e2 : a / 256 % 256 = b2 := hb2'.symm
  have e3 : a % 256 = b3 := hb3'.symm
  rw [e0, e1, e2, e3]
  have HB0 := Lib.hid hb0
  have HB1 := Lib.hid hb1'
  have HB2 := Lib.hid hb2'
  have HB3 := Lib.hid hb3'
  have i0' : ∀ W : World, (Instr.index 67 (.agg #[.int .u8 (b0 : Int), .int .u8 (b1 : Int), .int .u8 (b2 : Int), .int .u8 (b3 : Int)]) (.int .i64 0)).run Tryd.prog W = .ok (.int .u8 (b0 : Int)) W := fun _ => by kernel_rfl
  have i1' : ∀ W : World, (Instr.index 67 (.agg #[.int .u8 (b0 : Int), .int .u8 (b1 : Int), .int .u8 (b2 : Int), .int .u8 (b3 : Int)]) (.int .i64 1)).run Tryd.prog W = .ok (.int .u8 (b1 : Int)) W := fun _ => by kernel_rfl
  have i2' : ∀ W : World, (Instr.index 67 (.agg #[.int .u8 (b0 : Int), .int .u8 (b1 : Int), .int .u8 (b2 : Int), .int .u8 (b3 : Int)]) (.int .i64 2)).run Tryd.prog W = .ok (.int .u8 (b2 : Int)) W := fun _ => by kernel_rfl
  have i3' : ∀ W : World, (Instr.index 67 (.agg #[.int .u8 (b0 : Int), .int .u8 (b1 : Int), .int .u8 (b2 : Int), .int .u8 (b3 : Int)]) (.int .i64 3)).run Tryd.prog W = .ok (.int .u8 (b3 : Int)) W := fun _ => by kernel_rfl
  clear e0 e1 e2 e3 hb0 hb1' hb2' hb3'
  go_wp2_with fail
  go_loopw [3, 8] (fun v i wr => ∃ k : Nat, k ≤ 4 ∧ i = .int .i64 (k : Int) ∧ Hid (wr.ownsRow w.heap.size 9 1 v k (parts4 a k)) ∧ Hid (Below w.heap.size w wr)) (fun _ i _ => 4 - (intOf i).toNat)
  case atStart => exact ⟨0, Nat.zero_le _, rfl, World.ownsRow_nil _ _ _ _, hb1⟩
  case round =>
    obtain ⟨k, hk, rfl, HO, HB⟩ := hrel
    have hks : k = 0 ∨ k = 1 ∨ k = 2 ∨ k = 3 ∨ k = 4 := by omega
    clear hb1
    rcases hks with rfl | rfl | rfl | rfl | rfl
    · have hGr := hG.below HB.out
      have hlt := (show b0 < 256 by rw [HB0.out]; exact adB_lt a 0 h)
      go_wp2_with fail
      (with_reducible refine (itoa_any b0 wr hlt hGr).mono ?_)
      rintro e w5 ⟨rfl, hb5⟩
      have hal : Below w5.heap.size w5 (w5.alloc (.cells #[.string (strOf (numL b0))] 9)) := (Below.refl _ _).alloc (Nat.le_refl _) _
      have hbw := below_call HB.out (below_call hb5 hal)
      have hown := own_below HO.out (below_call hb5 hal)
      have hrc := rc_new w5 [.string (strOf (numL b0))] 9
      have hone : ∀ u ∈ [Value.string (strOf (numL b0))], u.oneCell' = true := fun u hu => by simp only [List.mem_singleton] at hu; rw [hu]; rfl
      have hbz := hbw.size
      go_wp2_with (at_builtin; refine wl_app _ rfl (.tmp 11) (.tmp 15) 62 rfl w.heap.size 9 i0 (.string ByteArray.empty) 1 16 Tryd.underlying62 hi hz0 hz1 hz2 rfl (by omega) _ 0 _ rfl hown (some ⟨w5.heap.size, 0, none⟩) 1 1 [.string (strOf (numL b0))] rfl rfl hrc hone (by unfold maxLen; omega) (by omega) hbz ?_)
      intro v7 w7 hown7 hg7 hat7
      have hb7 : Hid (Below w.heap.size w w7) := hbw.grown hg7 hbz (fun q hq => (own_lt hown hq).1)
      have G : Hid (w7.ownsRow w.heap.size 9 1 v7 (0 + 1) (parts4 a (0 + 1))) := by
        have := hown7
        rw [HB0.out] at this
        exact this
      clear hown7 hg7 hat7 hown hrc hone hbw hal
      go_wp2_with fail
      go_roundw
      case rel => exact ⟨0 + 1, by omega, rfl, G, hb7⟩
      case measure => simp [intOf]
    · have hGr := hG.below HB.out
      have hlt := (show b1 < 256 by rw [HB1.out]; exact adB_lt a 1 h)
      go_wp2_with fail
      (with_reducible refine (itoa_any b1 wr hlt hGr).mono ?_)
      rintro e w5 ⟨rfl, hb5⟩
      have hal : Below w5.heap.size w5 (w5.alloc (.cells #[.string (strOf (numL b1))] 9)) := (Below.refl _ _).alloc (Nat.le_refl _) _
      have hbw := below_call HB.out (below_call hb5 hal)
      have hown := own_below HO.out (below_call hb5 hal)
      have hrc := rc_new w5 [.string (strOf (numL b1))] 9
      have hone : ∀ u ∈ [Value.string (strOf (numL b1))], u.oneCell' = true := fun u hu => by simp only [List.mem_singleton] at hu; rw [hu]; rfl
      have hbz := hbw.size
      go_wp2_with (at_builtin; refine wl_app _ rfl (.tmp 11) (.tmp 15) 62 rfl w.heap.size 9 i0 (.string ByteArray.empty) 1 16 Tryd.underlying62 hi hz0 hz1 hz2 rfl (by omega) _ 1 _ rfl hown (some ⟨w5.heap.size, 0, none⟩) 1 1 [.string (strOf (numL b1))] rfl rfl hrc hone (by unfold maxLen; omega) (by omega) hbz ?_)
      intro v7 w7 hown7 hg7 hat7
      have hb7 : Hid (Below w.heap.size w w7) := hbw.grown hg7 hbz (fun q hq => (own_lt hown hq).1)
      have G : Hid (w7.ownsRow w.heap.size 9 1 v7 (1 + 1) (parts4 a (1 + 1))) := by
        have := hown7
        rw [HB1.out] at this
        exact this
      clear hown7 hg7 hat7 hown hrc hone hbw hal
      go_wp2_with fail
      go_roundw
      case rel => exact ⟨1 + 1, by omega, rfl, G, hb7⟩
      case measure => simp [intOf]
    · have hGr := hG.below HB.out
      have hlt := (show b2 < 256 by rw [HB2.out]; exact adB_lt a 2 h)
      go_wp2_with fail
      (with_reducible refine (itoa_any b2 wr hlt hGr).mono ?_)
      rintro e w5 ⟨rfl, hb5⟩
      have hal : Below w5.heap.size w5 (w5.alloc (.cells #[.string (strOf (numL b2))] 9)) := (Below.refl _ _).alloc (Nat.le_refl _) _
      have hbw := below_call HB.out (below_call hb5 hal)
      have hown := own_below HO.out (below_call hb5 hal)
      have hrc := rc_new w5 [.string (strOf (numL b2))] 9
      have hone : ∀ u ∈ [Value.string (strOf (numL b2))], u.oneCell' = true := fun u hu => by simp only [List.mem_singleton] at hu; rw [hu]; rfl
      have hbz := hbw.size
      go_wp2_with (at_builtin; refine wl_app _ rfl (.tmp 11) (.tmp 15) 62 rfl w.heap.size 9 i0 (.string ByteArray.empty) 1 16 Tryd.underlying62 hi hz0 hz1 hz2 rfl (by omega) _ 2 _ rfl hown (some ⟨w5.heap.size, 0, none⟩) 1 1 [.string (strOf (numL b2))] rfl rfl hrc hone (by unfold maxLen; omega) (by omega) hbz ?_)
      intro v7 w7 hown7 hg7 hat7
      have hb7 : Hid (Below w.heap.size w w7) := hbw.grown hg7 hbz (fun q hq => (own_lt hown hq).1)
      have G : Hid (w7.ownsRow w.heap.size 9 1 v7 (2 + 1) (parts4 a (2 + 1))) := by
        have := hown7
        rw [HB2.out] at this
        exact this
      clear hown7 hg7 hat7 hown hrc hone hbw hal
      go_wp2_with fail
      go_roundw
      case rel => exact ⟨2 + 1, by omega, rfl, G, hb7⟩
      case measure => simp [intOf]
    · have hGr := hG.below HB.out
      have hlt := (show b3 < 256 by rw [HB3.out]; exact adB_lt a 3 h)
      go_wp2_with fail
      (with_reducible refine (itoa_any b3 wr hlt hGr).mono ?_)
      rintro e w5 ⟨rfl, hb5⟩
      have hal : Below w5.heap.size w5 (w5.alloc (.cells #[.string (strOf (numL b3))] 9)) := (Below.refl _ _).alloc (Nat.le_refl _) _
      have hbw := below_call HB.out (below_call hb5 hal)
      have hown := own_below HO.out (below_call hb5 hal)
      have hrc := rc_new w5 [.string (strOf (numL b3))] 9
      have hone : ∀ u ∈ [Value.string (strOf (numL b3))], u.oneCell' = true := fun u hu => by simp only [List.mem_singleton] at hu; rw [hu]; rfl
      have hbz := hbw.size
      go_wp2_with (at_builtin; refine wl_app _ rfl (.tmp 11) (.tmp 15) 62 rfl w.heap.size 9 i0 (.string ByteArray.empty) 1 16 Tryd.underlying62 hi hz0 hz1 hz2 rfl (by omega) _ 3 _ rfl hown (some ⟨w5.heap.size, 0, none⟩) 1 1 [.string (strOf (numL b3))] rfl rfl hrc hone (by unfold maxLen; omega) (by omega) hbz ?_)
      intro v7 w7 hown7 hg7 hat7
      have hb7 : Hid (Below w.heap.size w w7) := hbw.grown hg7 hbz (fun q hq => (own_lt hown hq).1)
      have G : Hid (w7.ownsRow w.heap.size 9 1 v7 (3 + 1) (parts4 a (3 + 1))) := by
        have := hown7
        rw [HB3.out] at this
        exact this
      clear hown7 hg7 hat7 hown hrc hone hbw hal
      go_wp2_with fail
      go_roundw
      case rel => exact ⟨3 + 1, by omega, rfl, G, hb7⟩
      case measure => simp [intOf]
    · have ho := HO.out
      have hbel := HB.out
      obtain ⟨g, c, rfl, -, hc⟩ := own_atS1 ho (by omega)
      have hcells : ∀ (j : Nat) x, [strOf (numL (adB a 0)), strOf (numL (adB a 1)), strOf (numL (adB a 2)), strOf (numL (adB a 3))][j]? = some x → wr.cell? ⟨g, 0 + j, none⟩ = some (.string x) := fun j x hx => by
        have hj : j < 4 := by have := (List.getElem?_eq_some_iff.1 hx).1; simpa using this
        rw [Nat.zero_add, ho.cellAt j (by omega)]
        have : j = 0 ∨ j = 1 ∨ j = 2 ∨ j = 3 := by omega
        rcases this with rfl | rfl | rfl | rfl <;> (simp at hx; subst hx; rfl)
      have hgl := (own_lt ho (g := g) rfl).2
      have hln : (Lib.join ([strOf (numL (adB a 0)), strOf (numL (adB a 1)), strOf (numL (adB a 2)), strOf (numL (adB a 3))].map (·.data.toList)) [46]).length ≤ 140737488355328 := by
        have h0 := numL_len _ (adB_lt a 0 h)
        have h1 := numL_len _ (adB_lt a 1 h)
        have h2 := numL_len _ (adB_lt a 2 h)
        have h3 := numL_len _ (adB_lt a 3 h)
        simp only [List.map_cons, List.map_nil, strOf, List.toList_toArray, Lib.join, List.intercalate, List.intersperse, List.flatten_cons, List.flatten_nil, List.length_append, List.length_cons, List.length_nil]
        omega
      have HC := Lib.hid hcells
      have HLN := Lib.hid hln
      clear hcells hln HO HB ho hG
      go_wp2_with fail
      (with_reducible refine (join4_any _ _ _ _ g c wr HC.out hgl hc HLN.out).mono ?_)
      rintro e w5 ⟨rfl, hb5⟩
      go_wp2_with fail
      go_ret
      exact ⟨rfl, below_call hbel hb5⟩
end Go.Proofs.YtfhdkcdhfdapbaaDoor
