/- The walk of the fabric's Between. -/
import Derived.Test.YtikichifdkgobaaFabBtw
namespace Go.Proofs.Ytikichifdkgobaa
set_option linter.unusedVariables false
set_option linter.unusedSimpArgs false
open Go.RowKit

/-- The ids of the letters from a to b. -/
def btw (l : List (Lh × Value)) (a b : Int) : List Int := (l.filter fun p => p.1.src == a && p.1.dst == b).map (·.1.id)
theorem btw_snoc (l : List (Lh × Value)) (a b : Int) (k : Nat) (h : k < l.length) : btw (l.take (k + 1)) a b = btw (l.take k) a b ++ (if l[k].1.src == a && l[k].1.dst == b then [l[k].1.id] else []) := by
  have e : l.take (k + 1) = l.take k ++ [l[k]] := by rw [List.take_add_one, List.getElem?_eq_getElem h]; rfl
  rw [e]
  unfold btw
  rw [List.filter_append, List.map_append]
  congr 1
  cases hb : (l[k].1.src == a && l[k].1.dst == b) <;> simp [List.filter, hb]
theorem btw_le (l : List (Lh × Value)) (a b : Int) : (btw l a b).length ≤ l.length := by
  unfold btw
  rw [List.length_map]
  exact List.length_filter_le _ _
set_option maxHeartbeats 1600000 in
theorem between_any (base gf : Nat) (last : Int) (fl : Value) (l : List (Lh × Value)) (xs : List (List UInt8)) (a b : Int) (w : World) (hF : Fb w base gf last fl l xs) (hl : l.length ≤ 4096) :
    Calls Try.prog 20 #[.pointer (some ⟨gf, 0, none⟩), .int .i64 a, .int .i64 b] w fun e w' => (∃ A c, e = .returned (.slice A (btw l a b).length c) ∧ w'.ownsRow w.heap.size 3 1 (.slice A (btw l a b).length c) (btw l a b).length ((btw l a b).map (Value.int .i64))) ∧ Below w.heap.size w w' := by
  obtain ⟨i0, hi, hz0, hz1, hz2⟩ := info_parts info_int8
  have c0 := hF.blk.cell 0
  simp only [List.getElem?_cons_zero] at c0
  obtain ⟨fA, fc, rfl, hfc, hfl5, hfn⟩ := own_formS hF.own
  go_enter Try.func20, Try.ntmps20
  go_wp2_with fail
  go_loopw [7, 17] (fun out i wr => ∃ (k n : Nat) (ys : List Value), k ≤ l.length ∧ n ≤ k ∧ i = .int .i64 (k : Int) ∧ Hid (wr.ownsRow w.heap.size 3 1 out n ys) ∧ Hid (ys = (btw (l.take k) a b).map (Value.int .i64)) ∧ Hid (n = (btw (l.take k) a b).length) ∧ Below w.heap.size w wr) (fun _ i _ => l.length - (intOf i).toNat)
  case atStart => exact ⟨0, 0, [], Nat.zero_le _, Nat.le_refl _, rfl, World.ownsRow_nil _ _ _ _, rfl, rfl, Below.refl _ _⟩
  case round =>
    obtain ⟨k, n, ys, hk, hnk, rfl, HO, HY, HNN, hb⟩ := hrel
    by_cases hlt : k < l.length
    · have hFr := hF.below hb
      obtain ⟨g, fc', e0, hbg, hfc'⟩ := hFr.form (by omega)
      injection e0 with e1 e2 e3
      subst e1 e3
      obtain ⟨Av, kv, cv, hvv⟩ := hFr.slices l[k] (List.getElem_mem hlt)
      have HSN := Lib.hid (btw_snoc l a b k hlt)
      have hcl : ∀ i, i < 5 → wr.cell? ⟨g, k * 5 + i, none⟩ = (ltc l[k].1 l[k].2)[i]? := fun i hi => by
        rw [hFr.own.cellAt (k * 5 + i) (by omega), lcs_get l k i hlt hi]
      have x0 := hcl 0 (by omega)
      have x1 := hcl 1 (by omega)
      have x2 := hcl 2 (by omega)
      have x3 := hcl 3 (by omega)
      have x4 := hcl 4 (by omega)
      rw [hvv] at x0 x1 x2 x3 x4
      simp only [ltc, List.getElem?_cons_zero, List.getElem?_cons_succ, Nat.add_zero] at x0 x1 x2 x3 x4
      generalize l[k].1.id = id_ at *
      generalize l[k].1.ctl = ctl_ at *
      generalize l[k].1.src = src_ at *
      generalize l[k].1.dst = dst_ at *
      clear hcl hvv hFr
      by_cases hm : (src_ == a && dst_ == b) = true
      · obtain ⟨hs, hd⟩ : a = src_ ∧ b = dst_ := by have : src_ = a ∧ dst_ = b := by simpa using hm
                                                    exact ⟨this.1.symm, this.2.symm⟩
        subst hs hd
        have hm := Lib.hid hm
        have hbs := hb.size
        have hal : Below wr.heap.size wr ((wr.alloc (.cells #[.int .i64 id_, .int .i64 a, .int .i64 b, .bool ctl_, .slice Av kv cv] 37)).alloc (.cells #[.int .i64 id_] 3)) := below_al ((Below.refl _ wr).alloc (Nat.le_refl _) _) _
        have hown := own_below HO.out hal
        have hb2 := below_call hb hal
        have hone : ∀ u ∈ [Value.int .i64 id_], u.oneCell' = true := fun u hu => by simp only [List.mem_singleton] at hu; rw [hu]; rfl
        have hrc : RC ((wr.alloc (.cells #[.int .i64 id_, .int .i64 a, .int .i64 b, .bool ctl_, .slice Av kv cv] 37)).alloc (.cells #[.int .i64 id_] 3)) (some ⟨wr.heap.size + 1, 0, none⟩) [.int .i64 id_] := by
          have := rc_new (wr.alloc (.cells #[.int .i64 id_, .int .i64 a, .int .i64 b, .bool ctl_, .slice Av kv cv] 37)) [.int .i64 id_] 3
          simpa using this
        have hbz := hb2.size
        go_wp2_with (at_builtin; refine wl_app _ rfl (.tmp 31) (.tmp 34) 28 rfl w.heap.size 3 i0 (.int .i64 0) 1 8 Try.underlying28 hi hz0 hz1 hz2 rfl (by omega) _ n ys rfl hown (some ⟨wr.heap.size + 1, 0, none⟩) 1 1 [.int .i64 id_] rfl rfl hrc hone (by unfold maxLen; omega) (by omega) hbz ?_)
        intro v2 w2 hown2 hg2 hat2
        have hb3 : Below w.heap.size w w2 := hb2.grown hg2 hbz (fun q hq => (own_lt hown hq).1)
        have G0 := Lib.hid hown2
        clear hown2 hg2 hat2 hown hone hrc x0 x1 x2 x3 x4 hal
        go_wp2_with fail
        go_roundw
        case rel => exact ⟨k + 1, n + 1, _, by omega, by omega, by go_num, G0, by show _ = _; rw [HSN.out, HY.out, if_pos hm.out]; simp, by show _ = _; rw [HSN.out, if_pos hm.out, List.length_append, ← HNN.out]; rfl, hb3⟩
        case measure => simp [intOf]; omega
      · have hm2 : (src_ == a && dst_ == b) = false := by cases h : (src_ == a && dst_ == b); rfl; exact absurd h hm
        have HM := Lib.hid hm
        clear hm
        have hb2 := below_al hb (.cells #[.int .i64 id_, .int .i64 src_, .int .i64 dst_, .bool ctl_, .slice Av kv cv] 37)
        have G0 : Hid ((wr.alloc (.cells #[.int .i64 id_, .int .i64 src_, .int .i64 dst_, .bool ctl_, .slice Av kv cv] 37)).ownsRow w.heap.size 3 1 _ n ys) := HO.out.alloc _
        by_cases hs : src_ = a
        · have hs1 : (src_ == a) = true := beq_iff_eq.2 hs
          have hs2 : (dst_ == b) = false := by rw [hs1, Bool.true_and] at hm2; exact hm2
          clear hs hm2
          go_wp2_with fail
          go_roundw
          case rel => exact ⟨k + 1, n, ys, by omega, by omega, by go_num, G0, by show _ = _; rw [HSN.out, HY.out, if_neg HM.out]; simp, by show _ = _; rw [HSN.out, if_neg HM.out, List.append_nil, ← HNN.out], hb2⟩
          case measure => simp [intOf]; omega
        · have hs1 : (src_ == a) = false := beq_eq_false_iff_ne.2 hs
          clear hs hm2
          go_wp2_with fail
          go_roundw
          case rel => exact ⟨k + 1, n, ys, by omega, by omega, by go_num, G0, by show _ = _; rw [HSN.out, HY.out, if_neg HM.out]; simp, by show _ = _; rw [HSN.out, if_neg HM.out, List.append_nil, ← HNN.out], hb2⟩
          case measure => simp [intOf]; omega
    · obtain rfl : k = l.length := by omega
      have ho := HO.out
      have hy := HY.out
      have hn := HNN.out
      rw [List.take_length] at hy hn
      subst hy hn
      obtain ⟨Ao, co, rfl, -, -, -⟩ := own_formS ho
      have HOO := Lib.hid ho
      clear ho HO
      go_wp2_with fail
      go_ret
      exact ⟨⟨Ao, co, rfl, HOO.out⟩, hb⟩
end Go.Proofs.Ytikichifdkgobaa
