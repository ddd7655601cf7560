/- The document's fabric: the walks of Between, Same. -/
import Derived.Test.YtikichifdkgobaaFabRefC
import Derived.Test.YtikichifdkgobaaFabCopy
import Derived.Deep.RegionHeld3
namespace Go.Proofs.Ytikichifdkgobaa
set_option linter.unusedVariables false
set_option linter.unusedSimpArgs false
open Go.RowKit

set_option maxHeartbeats 1600000 in
theorem rbetween_any (base gm : Nat) (last : Int) (ml : Value) (l : List (Lh × Value)) (xs : List (List UInt8)) (a b : Int) (w : World) (hF : Rb w base gm last ml l xs) (hl : l.length ≤ 4096) :
    Calls Try.prog 31 #[.pointer (some ⟨gm, 0, none⟩), .int .i64 a, .int .i64 b] w fun e w' => (∃ A c, e = .returned (.slice A (btw l a b).length c) ∧ w'.ownsRow w.heap.size 3 1 (.slice A (btw l a b).length c) (btw l a b).length ((btw l a b).map (Value.int .i64))) ∧ Below w.heap.size w w' := by
  obtain ⟨i0, hi, hz0, hz1, hz2⟩ := info_parts info_int8
  have c0 := hF.blk.cell 0
  simp only [List.getElem?_cons_zero] at c0
  obtain ⟨fA, fc, rfl, hfc, hfl5, hfn⟩ := own_formS hF.own
  go_enter Try.func31, Try.ntmps31
  go_wp2_with fail
  go_loopw [7, 8] (fun out i wr => ∃ (k n : Nat) (ys : List Value), k ≤ l.length ∧ n ≤ k ∧ i = .int .i64 (k : Int) ∧ Hid (wr.ownsRow w.heap.size 3 1 out n ys) ∧ Hid (ys = (btw (l.take k) a b).map (Value.int .i64)) ∧ Hid (n = (btw (l.take k) a b).length) ∧ Below w.heap.size w wr) (fun _ i _ => l.length - (intOf i).toNat)
  case atStart => exact ⟨0, 0, [], Nat.zero_le _, Nat.le_refl _, rfl, World.ownsRow_nil _ _ _ _, rfl, rfl, Below.refl _ _⟩
  case round =>
    obtain ⟨k, n, ys, hk, hnk, rfl, HO, HY, HNN, hb⟩ := hrel
    have hFr := hF.below hb
    have c1 := hFr.blk.cell 0
    simp only [List.getElem?_cons_zero] at c1
    by_cases hlt : k < l.length
    · obtain ⟨g, fc', e0, hbg, hfc'⟩ := own_atS hFr.own (by omega)
      injection e0 with e1 e2 e3
      subst e1 e3
      have HSN := Lib.hid (btw_snoc l a b k hlt)
      have hcl : ∀ i, i < 5 → wr.cell? ⟨g, k * 5 + i, none⟩ = (ltc l[k].1 l[k].2)[i]? := fun i hi => by
        rw [hFr.own.cellAt (k * 5 + i) (by omega), lcs_get l k i hlt hi]
      have x0 := hcl 0 (by omega)
      have x1 := hcl 1 (by omega)
      have x2 := hcl 2 (by omega)
      simp only [ltc, List.getElem?_cons_zero, List.getElem?_cons_succ, Nat.add_zero] at x0 x1 x2
      generalize l[k].1.id = id_ at *
      generalize l[k].1.src = src_ at *
      generalize l[k].1.dst = dst_ at *
      have q1 : (k : Int) < (l.length : Int) := by omega
      clear hcl hFr
      by_cases hm : (src_ == a && dst_ == b) = true
      · obtain ⟨hs, hd⟩ : a = src_ ∧ b = dst_ := by have : src_ = a ∧ dst_ = b := by simpa using hm
                                                    exact ⟨this.1.symm, this.2.symm⟩
        subst hs hd
        have hm := Lib.hid hm
        have hbs := hb.size
        have hal : Below wr.heap.size wr (wr.alloc (.cells #[.int .i64 id_] 3)) := (Below.refl _ wr).alloc (Nat.le_refl _) _
        have hown := own_below HO.out hal
        have hb2 := below_call hb hal
        have hone : ∀ u ∈ [Value.int .i64 id_], u.oneCell' = true := fun u hu => by simp only [List.mem_singleton] at hu; rw [hu]; rfl
        have hrc : RC (wr.alloc (.cells #[.int .i64 id_] 3)) (some ⟨wr.heap.size, 0, none⟩) [.int .i64 id_] := rc_new wr [.int .i64 id_] 3
        have hbz := hb2.size
        go_wp2_with (at_builtin; refine wl_app _ rfl (.tmp 40) (.tmp 49) 28 rfl w.heap.size 3 i0 (.int .i64 0) 1 8 Try.underlying28 hi hz0 hz1 hz2 rfl (by omega) _ n ys rfl hown (some ⟨wr.heap.size, 0, none⟩) 1 1 [.int .i64 id_] rfl rfl hrc hone (by unfold maxLen; omega) (by omega) hbz ?_)
        intro v2 w2 hown2 hg2 hat2
        have hb3 : Below w.heap.size w w2 := hb2.grown hg2 hbz (fun q hq => (own_lt hown hq).1)
        have G0 := Lib.hid hown2
        clear hown2 hg2 hat2 hown hone hrc x0 x1 x2 hal c1
        go_wp2_with fail
        go_roundw
        case rel => exact ⟨k + 1, n + 1, _, by omega, by omega, by go_num, G0, by show _ = _; rw [HSN.out, HY.out, if_pos hm.out]; simp, by show _ = _; rw [HSN.out, if_pos hm.out, List.length_append, ← HNN.out]; rfl, hb3⟩
        case measure => simp [intOf]; omega
      · have hm2 : (src_ == a && dst_ == b) = false := by cases h : (src_ == a && dst_ == b); rfl; exact absurd h hm
        have HM := Lib.hid hm
        clear hm
        by_cases hs : src_ = a
        · have hs1 : (src_ == a) = true := beq_iff_eq.2 hs
          have hs2 : (dst_ == b) = false := by rw [hs1, Bool.true_and] at hm2; exact hm2
          clear hs hm2
          go_wp2_with fail
          go_roundw
          case rel => exact ⟨k + 1, n, ys, by omega, by omega, by go_num, HO, by show _ = _; rw [HSN.out, HY.out, if_neg HM.out]; simp, by show _ = _; rw [HSN.out, if_neg HM.out, List.append_nil, ← HNN.out], hb⟩
          case measure => simp [intOf]; omega
        · have hs1 : (src_ == a) = false := beq_eq_false_iff_ne.2 hs
          clear hs hm2
          go_wp2_with fail
          go_roundw
          case rel => exact ⟨k + 1, n, ys, by omega, by omega, by go_num, HO, by show _ = _; rw [HSN.out, HY.out, if_neg HM.out]; simp, by show _ = _; rw [HSN.out, if_neg HM.out, List.append_nil, ← HNN.out], hb⟩
          case measure => simp [intOf]; omega
    · obtain rfl : k = l.length := by omega
      have ho := HO.out
      have hy := HY.out
      have hn := HNN.out
      rw [List.take_length] at hy hn
      subst hy hn
      obtain ⟨Ao, co, rfl, -, -, -⟩ := own_formS ho
      have HOO := Lib.hid ho
      clear ho HO
      go_wp2_with fail
      go_ret
      exact ⟨⟨Ao, co, rfl, HOO.out⟩, hb⟩

/-- Letters in a row: the headers and the bytes. -/
structure Lts (w : World) (A : Option Addr) (n : Nat) (hs : List Lh) (xs : List (List UInt8)) : Prop where
  lh : hs.length = n
  lx : xs.length = n
  at_ : ∀ (k : Nat) (h : k < hs.length) (h2 : k < xs.length), ∃ g B c, A = some (⟨g, 0, none⟩ : Addr) ∧ (∀ i, i < 5 → w.cell? ⟨g, k * 5 + i, none⟩ = (ltc hs[k] (.slice B xs[k].length c))[i]?) ∧ xs[k].length ≤ c ∧ RB w B xs[k]
theorem Lts.of {w : World} {base base' n : Nat} {A : Option Addr} {c : Nat} {l : List (Lh × Value)} {xs : List (List UInt8)} {hs : List Lh} (ho : w.ownsRow base 37 5 (.slice A n c) n (lcs l)) (hl : l.length = n) (hh : l.map (·.1) = hs) (hr : Ows w base' (l.map (·.2)) xs) : Lts w A n hs xs := by
  have hxl := hr.len
  rw [List.length_map] at hxl
  subst hh
  refine ⟨by rw [List.length_map]; exact hl, by omega, fun k h h2 => ?_⟩
  rw [List.length_map] at h
  obtain ⟨g, c', e0, -, -⟩ := own_atS ho (by omega)
  injection e0 with e1 e2 e3
  subst e1
  obtain ⟨B, cb, hv, hcb, hB, -⟩ := own_form (hr.own k l[k].2 xs[k] (by rw [List.getElem?_map, List.getElem?_eq_getElem h]; rfl) (List.getElem?_eq_getElem h2))
  refine ⟨g, B, cb, rfl, fun i hi => ?_, hcb, hB⟩
  subst e3
  rw [ho.cellAt (k * 5 + i) (by omega), lcs_get l k i h hi, hv]
  simp
theorem Lts.below {w w' : World} {A : Option Addr} {n : Nat} {hs : List Lh} {xs : List (List UInt8)} (h : Lts w A n hs xs) (hb : Below w.heap.size w w') : Lts w' A n hs xs :=
  ⟨h.lh, h.lx, fun k h1 h2 => by
    obtain ⟨g, B, c, e, hc, hn, hB⟩ := h.at_ k h1 h2
    exact ⟨g, B, c, e, fun i hi => by
      have h1 := hc i hi
      rw [List.getElem?_eq_getElem (by simpa [ltc] using hi)] at h1 ⊢
      exact cell_keep hb h1, hn, hB.below hb⟩⟩
set_option maxHeartbeats 1600000 in
theorem rsame_any (A B : Option Addr) (n c d : Nat) (hs : List Lh) (xs : List (List UInt8)) (w : World) (hA : Lts w A n hs xs) (hB : Lts w B n hs xs) (hn : n ≤ 4096) :
    Calls Try.prog 32 #[.slice A n c, .slice B n d] w fun e w' => e = .returned (.bool true) ∧ Below w.heap.size w w' := by
  have HA := Lib.hid hA
  have HB := Lib.hid hB
  clear hA hB
  go_enter Try.func32, Try.ntmps32
  go_wp2_with fail
  go_loopw [5] (fun i wr => ∃ k : Nat, k ≤ n ∧ i = .int .i64 (k : Int) ∧ Below w.heap.size w wr) (fun i _ => n - (intOf i).toNat)
  case atStart => exact ⟨0, Nat.zero_le _, rfl, Below.refl _ _⟩
  case round =>
    obtain ⟨k, hk, rfl, hb⟩ := hrel
    by_cases hlt : k < n
    · obtain ⟨a1, B1, c1, rfl, hc1, hn1, hB1⟩ := (HA.out.below hb).at_ k (by rw [HA.out.lh]; exact hlt) (by rw [HA.out.lx]; exact hlt)
      obtain ⟨a2, B2, c2, rfl, hc2, hn2, hB2⟩ := (HB.out.below hb).at_ k (by rw [HA.out.lh]; exact hlt) (by rw [HA.out.lx]; exact hlt)
      generalize hs[k]'_ = h at *
      generalize xs[k]'_ = x at *
      obtain ⟨id_, src_, dst_, ctl_⟩ := h
      have x0 := hc1 0 (by omega)
      have x1 := hc1 1 (by omega)
      have x2 := hc1 2 (by omega)
      have x3 := hc1 3 (by omega)
      have x4 := hc1 4 (by omega)
      have y0 := hc2 0 (by omega)
      have y1 := hc2 1 (by omega)
      have y2 := hc2 2 (by omega)
      have y3 := hc2 3 (by omega)
      have y4 := hc2 4 (by omega)
      simp only [ltc, List.getElem?_cons_zero, List.getElem?_cons_succ, Nat.add_zero] at x0 x1 x2 x3 x4 y0 y1 y2 y3 y4
      have q1 : (k : Int) < (n : Int) := by omega
      have q0 : (0 : Int) ≤ (k : Int) := by omega
      have hcur : Below wr.heap.size wr wr.drew := Below.drew (Below.refl _ _)
      have HB1 := Lib.hid hB1
      have HB2 := Lib.hid hB2
      have hb0 := Lib.hid hb
      clear hc1 hc2 hB1 hB2 hn1 hn2 hb
      go_wp2_with fail
      go_region_held3 (fun w' => w'.cell? ⟨a1, k * 5, none⟩ = some (.int .i64 id_) ∧ w'.cell? ⟨a1, k * 5 + 1, none⟩ = some (.int .i64 src_) ∧ w'.cell? ⟨a1, k * 5 + 2, none⟩ = some (.int .i64 dst_) ∧ w'.cell? ⟨a1, k * 5 + 3, none⟩ = some (.bool ctl_) ∧ w'.cell? ⟨a1, k * 5 + 4, none⟩ = some (.slice B1 x.length c1)
          ∧ w'.cell? ⟨a2, k * 5, none⟩ = some (.int .i64 id_) ∧ w'.cell? ⟨a2, k * 5 + 1, none⟩ = some (.int .i64 src_) ∧ w'.cell? ⟨a2, k * 5 + 2, none⟩ = some (.int .i64 dst_) ∧ w'.cell? ⟨a2, k * 5 + 3, none⟩ = some (.bool ctl_) ∧ w'.cell? ⟨a2, k * 5 + 4, none⟩ = some (.slice B2 x.length c2))
        (with_reducible exact ⟨cell_keep hcur x0, cell_keep hcur x1, cell_keep hcur x2, cell_keep hcur x3, cell_keep hcur x4, cell_keep hcur y0, cell_keep hcur y1, cell_keep hcur y2, cell_keep hcur y3, cell_keep hcur y4⟩)
        (first
          | (go_at_call 17; (with_reducible refine (rlike_same ⟨id_, src_, dst_, ctl_⟩ B1 B2 c1 c2 x x.length _ rfl (HB1.out.below hcur) (HB2.out.below hcur)).mono ?_); rintro e w9 ⟨rfl, hb9⟩; replace hcur := below_call hcur hb9))
      all_goals
        have hb8 := below_call hb0.out hcur
        clear x0 x1 x2 x3 x4 y0 y1 y2 y3 y4
        go_wp2_with fail
        go_roundw
        case rel => exact ⟨k + 1, by omega, by go_num, hb8⟩
        case measure => simp [intOf]; omega
    · obtain rfl : k = n := by omega
      go_wp2_with fail
      go_ret
      exact ⟨rfl, hb⟩
end Go.Proofs.Ytikichifdkgobaa
