/- The walk of the fabric's Waiting. -/
import Derived.Test.YtikichifdkgobaaFabAny
namespace Go.Proofs.Ytikichifdkgobaa
set_option linter.unusedVariables false
set_option linter.unusedSimpArgs false
open Go.RowKit

/-- What Waiting has laid after k letters. -/
def WaitS (w wr : World) (out : Value) (l : List (Lh × Value)) (xs : List (List UInt8)) (k : Nat) : Prop := ∃ l2 : List (Lh × Value), l2.length = k ∧ l2.map (·.1) = (l.take k).map (·.1) ∧ wr.ownsRow w.heap.size 37 5 out k (lcs l2) ∧ Ows wr w.heap.size (l2.map (·.2)) (xs.take k) ∧ (l2.map (·.2)).Pairwise (fun u v => ∀ b, u.ownBlock = some b → v.ownBlock ≠ some b)
set_option maxHeartbeats 1600000 in
theorem waiting_any (base gf : Nat) (last : Int) (fl : Value) (l : List (Lh × Value)) (xs : List (List UInt8)) (w : World) (hF : Fb w base gf last fl l xs) (hl : l.length ≤ 4096) (hxs : ∀ x ∈ xs, x.length ≤ 4000000) :
    Calls Try.prog 21 #[.pointer (some ⟨gf, 0, none⟩)] w fun e w' => (∃ A c, e = .returned (.slice A l.length c) ∧ WaitS w w' (.slice A l.length c) l xs l.length) ∧ Below w.heap.size w w' := by
  obtain ⟨i0, hi, hz0, hz1, hz2⟩ := info_parts info_lt
  have c0 := hF.blk.cell 0
  simp only [List.getElem?_cons_zero] at c0
  obtain ⟨fA, fc, rfl, hfc, hfl5, hfn⟩ := own_formS hF.own
  have HXS := Lib.hid hxs
  have hxl : xs.length = l.length := by have := hF.rows.len; simpa using this.symm
  clear hxs
  go_enter Try.func21, Try.ntmps21
  go_wp2_with fail
  go_loopw [3, 13] (fun out i wr => ∃ k : Nat, k ≤ l.length ∧ i = .int .i64 (k : Int) ∧ Hid (WaitS w wr out l xs k) ∧ Below w.heap.size w wr) (fun _ i _ => l.length - (intOf i).toNat)
  case atStart => exact ⟨0, Nat.zero_le _, rfl, ⟨[], rfl, rfl, World.ownsRow_nil _ _ _ _, Ows.nil _ _, List.Pairwise.nil⟩, Below.refl _ _⟩
  case round =>
    obtain ⟨k, hk, rfl, HW, hb⟩ := hrel
    by_cases hlt : k < l.length
    · have hFr := hF.below hb
      obtain ⟨g, fc', e0, hbg, hfc'⟩ := hFr.form (by omega)
      injection e0 with e1 e2 e3
      subst e1 e3
      have hxk : k < xs.length := by omega
      have hx4 := HXS.out xs[k] (List.getElem_mem hxk)
      obtain ⟨Av, cv, hvv, hcv, hRv, -⟩ := own_form (hFr.rows.own k l[k].2 xs[k] (by rw [List.getElem?_map, List.getElem?_eq_getElem hlt]; rfl) (List.getElem?_eq_getElem hxk))
      have hcl : ∀ i, i < 5 → wr.cell? ⟨g, k * 5 + i, none⟩ = (ltc l[k].1 l[k].2)[i]? := fun i hi => by
        rw [hFr.own.cellAt (k * 5 + i) (by omega), lcs_get l k i hlt hi]
      have x0 := hcl 0 (by omega)
      have x1 := hcl 1 (by omega)
      have x2 := hcl 2 (by omega)
      have x3 := hcl 3 (by omega)
      have x4 := hcl 4 (by omega)
      rw [hvv] at x0 x1 x2 x3 x4
      simp only [ltc, List.getElem?_cons_zero, List.getElem?_cons_succ, Nat.add_zero] at x0 x1 x2 x3 x4
      have HT : Hid ((l.take (k + 1)).map (·.1) = (l.take k).map (·.1) ++ [l[k].1]) := by
        show _ = _
        have e : l.take (k + 1) = l.take k ++ [l[k]] := by rw [List.take_add_one, List.getElem?_eq_getElem hlt]; rfl
        rw [e, List.map_append]
        rfl
      have HTX := Lib.hid (take_snoc xs k hxk)
      have hRv2 : RB wr Av xs[k] := hRv
      generalize l[k].1 = h at *
      generalize xs[k] = x at *
      obtain ⟨id_, src_, dst_, ctl_⟩ := h
      clear hcl hvv hFr hRv
      have hal : Below wr.heap.size wr (wr.alloc (.cells #[.int .i64 id_, .int .i64 src_, .int .i64 dst_, .bool ctl_, .slice Av x.length cv] 37)) := (Below.refl _ wr).alloc (Nat.le_refl _) _
      have hbs := hb.size
      have hRv3 := hRv2.below hal
      go_wp2_with fail
      (with_reducible refine (own_any ⟨id_, src_, dst_, ctl_⟩ x Av x.length cv _ rfl hRv3 hcv hx4).mono ?_)
      rintro e w5 ⟨A5, c5, rfl, hc5, hrow5, hb5⟩
      have hbr5 := below_call hal hb5
      obtain ⟨l2, hl2, hm2, ho2, hr2, hd2⟩ := HW.out
      have HD2 := Lib.hid hd2
      have HLT2 : Hid (∀ u ∈ l2.map (·.2), ∀ b, u.ownBlock = some b → b < wr.heap.size) := fun u hu b hb => by
        obtain ⟨y, ho⟩ := hr2.mem hu
        exact (own_lt ho hb).2
      have HN5 : Hid (∀ b, (Value.slice A5 x.length c5).ownBlock = some b → wr.heap.size ≤ b) := fun b hb => by have := (own_lt hrow5 hb).1; have := hal.size; omega
      have ho5 := own_below ho2 hbr5
      have hr5 := hr2.below hbr5
      have hb56 : Below w5.heap.size w5 (w5.alloc (.cells #[.int .i64 id_, .int .i64 src_, .int .i64 dst_, .bool ctl_, .slice A5 x.length c5] 37)) := (Below.refl _ w5).alloc (Nat.le_refl _) _
      have ho6 := own_below ho5 hb56
      have hbw6 := below_call (below_call hb hbr5) hb56
      have hrow6 : (w5.alloc (.cells #[.int .i64 id_, .int .i64 src_, .int .i64 dst_, .bool ctl_, .slice A5 x.length c5] 37)).ownsRow w.heap.size 5 1 (.slice A5 x.length c5) x.length (x.map bv) := own_weaken (own_below hrow5 hb56) (by have := hal.size; omega)
      have hr6 := hr5.below hb56
      have hrc := rc_new w5 (ltc ⟨id_, src_, dst_, ctl_⟩ (.slice A5 x.length c5)) 37
      have hone : ∀ u ∈ ltc ⟨id_, src_, dst_, ctl_⟩ (.slice A5 x.length c5), u.oneCell' = true := by simp [ltc, Value.oneCell']
      have hbz := hbw6.size
      have HM2 := Lib.hid hm2
      have HL2 := Lib.hid hl2
      clear ho2 hr2 hr5 ho5 hm2 hl2 hd2 x0 x1 x2 x3 x4
      go_wp2_with (at_builtin; refine wl_app _ rfl (.tmp 17) (.tmp 20) 27 rfl w.heap.size 37 i0 (.agg #[.int .i64 0, .int .i64 0, .int .i64 0, .bool false, .slice none 0 0]) 5 56 Try.underlying27 hi hz0 hz1 hz2 rfl (by omega) _ k (lcs l2) rfl ho6 (some ⟨w5.heap.size, 0, none⟩) 1 1 (ltc ⟨id_, src_, dst_, ctl_⟩ (.slice A5 x.length c5)) rfl rfl hrc hone (by unfold maxLen; omega) (by omega) hbz ?_)
      intro v7 w7 hown7 hg7 hat7
      have hb7 : Below w.heap.size w w7 := hbw6.grown hg7 hbz (fun q hq => (own_lt ho6 hq).1)
      have hcg := Chg.of hg7 (S := fun b => some b = _) (fun b hb => hb.symm)
      have G : Hid (WaitS w w7 v7 l xs (k + 1)) := by
        refine ⟨l2 ++ [(⟨id_, src_, dst_, ctl_⟩, .slice A5 x.length c5)], by rw [List.length_append, HL2.out]; rfl, ?_, ?_, ?_, ?_⟩
        · rw [HT.out, List.map_append, HM2.out]; rfl
        · rw [lcs_append]
          simpa [lcs] using hown7
        · rw [HTX.out, List.map_append]
          exact (hr6.chg hcg (fun v hv b hb e => by
            obtain ⟨y, ho⟩ := hr6.mem hv
            exact own_not_types ho ho6 (by decide) b hb e.symm)).append (Ows.one (hcg.row hrow6 (fun b hb e => own_not_types hrow6 ho6 (by decide) b hb e.symm)))
        · rw [List.map_append]
          refine List.pairwise_append.2 ⟨HD2.out, List.pairwise_singleton _ _, fun u hu v hv b hb e => ?_⟩
          simp only [List.map_cons, List.map_nil, List.mem_singleton] at hv
          subst hv
          have h1 := HLT2.out u hu b hb
          have h2 := HN5.out b e
          omega
      clear hown7 hg7 hat7 hcg ho6 hrow6 hr6 hrc hone
      go_wp2_with fail
      go_roundw
      case rel => exact ⟨k + 1, by omega, by go_num, G, hb7⟩
      case measure => simp [intOf]; omega
    · obtain rfl : k = l.length := by omega
      obtain ⟨l2, hl2, hm2, ho2, hr2, hd2⟩ := HW.out
      obtain ⟨Ao, co, rfl, -, -, -⟩ := own_formS ho2
      have G : Hid (WaitS w wr (.slice Ao l.length co) l xs l.length) := ⟨l2, hl2, hm2, ho2, hr2, hd2⟩
      clear hl2 hm2 ho2 hr2 hd2 HW
      go_wp2_with fail
      go_ret
      exact ⟨⟨Ao, co, rfl, G.out⟩, hb⟩
end Go.Proofs.Ytikichifdkgobaa
