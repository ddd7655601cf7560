/- The walk of the fabric's Between, where all letters go the same way. -/
import Derived.Test.YtikichifdkgobaaFabAlive
namespace Go.Proofs.Ytikichifdkgobaa
set_option linter.unusedVariables false
set_option linter.unusedSimpArgs false
open Go.RowKit

theorem info_int8 : (Try.prog.info? 3).map (fun i => (i.zero, i.size, i.bytes)) = some (some (.int .i64 0), 1, 8) := by kernel_rfl
set_option maxHeartbeats 1600000 in
theorem between_all (base gf : Nat) (last : Int) (fl : Value) (l : List (Lh × Value)) (xs : List (List UInt8)) (a b : Int) (w : World) (hF : Fb w base gf last fl l xs) (hl : l.length ≤ 4096) (hab : ∀ (j : Nat) v, l[j]? = some v → v.1.src = a ∧ v.1.dst = b) :
    Calls Try.prog 20 #[.pointer (some ⟨gf, 0, none⟩), .int .i64 a, .int .i64 b] w fun e w' => (∃ A c, e = .returned (.slice A l.length c)) ∧ Below w.heap.size w w' := by
  obtain ⟨i0, hi, hz0, hz1, hz2⟩ := info_parts info_int8
  have c0 := hF.blk.cell 0
  simp only [List.getElem?_cons_zero] at c0
  obtain ⟨fA, fc, rfl, hfc, hfl5, hfn⟩ := own_formS hF.own
  have HAB := Lib.hid hab
  clear hab
  go_enter Try.func20, Try.ntmps20
  go_wp2_with fail
  go_loopw [7, 17] (fun out i wr => ∃ (k : Nat) (ys : List Value), k ≤ l.length ∧ i = .int .i64 (k : Int) ∧ Hid (wr.ownsRow w.heap.size 3 1 out k ys) ∧ Below w.heap.size w wr) (fun _ i _ => l.length - (intOf i).toNat)
  case atStart => exact ⟨0, [], Nat.zero_le _, rfl, World.ownsRow_nil _ _ _ _, Below.refl _ _⟩
  case round =>
    obtain ⟨k, ys, hk, rfl, HO, hb⟩ := hrel
    by_cases hlt : k < l.length
    · have hFr := hF.below hb
      obtain ⟨g, fc', e0, hbg, hfc'⟩ := hFr.form (by omega)
      injection e0 with e1 e2 e3
      subst e1 e3
      obtain ⟨Av, kv, cv, hvv⟩ := hFr.slices l[k] (List.getElem_mem hlt)
      obtain ⟨hsrc, hdst⟩ := HAB.out k l[k] (List.getElem?_eq_getElem hlt)
      have hcl : ∀ i, i < 5 → wr.cell? ⟨g, k * 5 + i, none⟩ = (ltc l[k].1 l[k].2)[i]? := fun i hi => by
        rw [hFr.own.cellAt (k * 5 + i) (by omega), lcs_get l k i hlt hi]
      have x0 := hcl 0 (by omega)
      have x1 := hcl 1 (by omega)
      have x2 := hcl 2 (by omega)
      have x3 := hcl 3 (by omega)
      have x4 := hcl 4 (by omega)
      rw [hvv] at x0 x1 x2 x3 x4
      simp only [ltc, List.getElem?_cons_zero, List.getElem?_cons_succ, Nat.add_zero, hsrc, hdst] at x0 x1 x2 x3 x4
      generalize l[k].1.id = id_ at *
      generalize l[k].1.ctl = ctl_ at *
      clear hcl hvv hsrc hdst hFr
      have hbs := hb.size
      have hal : Below wr.heap.size wr ((wr.alloc (.cells #[.int .i64 id_, .int .i64 a, .int .i64 b, .bool ctl_, .slice Av kv cv] 37)).alloc (.cells #[.int .i64 id_] 3)) := below_al ((Below.refl _ wr).alloc (Nat.le_refl _) _) _
      have hown := own_below HO.out hal
      have hb2 := below_call hb hal
      have hone : ∀ u ∈ [Value.int .i64 id_], u.oneCell' = true := fun u hu => by simp only [List.mem_singleton] at hu; rw [hu]; rfl
      have hrc : RC ((wr.alloc (.cells #[.int .i64 id_, .int .i64 a, .int .i64 b, .bool ctl_, .slice Av kv cv] 37)).alloc (.cells #[.int .i64 id_] 3)) (some ⟨wr.heap.size + 1, 0, none⟩) [.int .i64 id_] := by
        have := rc_new (wr.alloc (.cells #[.int .i64 id_, .int .i64 a, .int .i64 b, .bool ctl_, .slice Av kv cv] 37)) [.int .i64 id_] 3
        simpa using this
      have hbz := hb2.size
      go_wp2_with (at_builtin; refine wl_app _ rfl (.tmp 31) (.tmp 34) 28 rfl w.heap.size 3 i0 (.int .i64 0) 1 8 Try.underlying28 hi hz0 hz1 hz2 rfl (by omega) _ k ys rfl hown (some ⟨wr.heap.size + 1, 0, none⟩) 1 1 [.int .i64 id_] rfl rfl hrc hone (by unfold maxLen; omega) (by omega) hbz ?_)
      intro v2 w2 hown2 hg2 hat2
      have hb3 : Below w.heap.size w w2 := hb2.grown hg2 hbz (fun q hq => (own_lt hown hq).1)
      have G0 := Lib.hid hown2
      clear hown2 hg2 hat2 hown hone hrc x0 x1 x2 x3 x4 hal
      go_wp2_with fail
      go_roundw
      case rel => exact ⟨k + 1, _, by omega, by go_num, G0, hb3⟩
      case measure => simp [intOf]; omega
    · obtain rfl : k = l.length := by omega
      have ho := HO.out
      obtain ⟨Ao, co, rfl, -, -, -⟩ := own_formS ho
      clear ho
      go_wp2_with fail
      go_ret
      exact ⟨⟨Ao, co, rfl⟩, hb⟩
end Go.Proofs.Ytikichifdkgobaa
