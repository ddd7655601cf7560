/- The walk of FabricTakes. -/
import Derived.Test.YtikichifdkgobaaFabTk
import Derived.Test.YtikichifdkgobaaFabricEmptiesWalk
import Derived.Deep.RegionHeld3
import Derived.Deep.QuietTactic
import Derived.BigQuiet
namespace Go.Proofs.Ytikichifdkgobaa
set_option linter.unusedVariables false
set_option linter.unusedSimpArgs false
open Go.RowKit

theorem blk6 {w : World} {g : Nat} {t : TypeId} {a0 a1 a2 a3 a4 a5 : Value} (h : Blk w g t [a0, a1, a2, a3, a4, a5]) :
    w.cell? ⟨g, 0, none⟩ = some a0 ∧ w.cell? ⟨g, 1, none⟩ = some a1 ∧ w.cell? ⟨g, 2, none⟩ = some a2 ∧ w.cell? ⟨g, 3, none⟩ = some a3 ∧ w.cell? ⟨g, 4, none⟩ = some a4 ∧ w.cell? ⟨g, 5, none⟩ = some a5 := ⟨h.cell 0, h.cell 1, h.cell 2, h.cell 3, h.cell 4, h.cell 5⟩
def TkI (w wr : World) (B : Nat) (sv tv : Value) (k : Nat) : Prop := ∃ fl l S xs C T, S.length ≤ k ∧ TkS w wr B fl sv tv l S xs C T
set_option maxRecDepth 100000 in
set_option maxHeartbeats 6400000 in
theorem FabricTakes_walk (ops : List FOp) (A : Option Addr) (c : Nat) (w : World) (hA : OpsAt w A ops) (hL : OpsLe ops) (hl : ops.length ≤ 1048576) :
    Calls Try.prog 3 #[.slice A ops.length c] w fun e w' => e = .returned (.bool true) ∧ Below w.heap.size w w' := by
  obtain ⟨i0, hi, hz0, hz1, hz2⟩ := info_parts info_lt
  obtain ⟨i1, hj, hy0, hy1, hy2⟩ := info_parts info_int8
  have HL := Lib.hid hL
  have HA := Lib.hid hA
  clear hL hA
  go_enter Try.func3, Try.ntmps3
  go_wp2_with fail
  (with_reducible refine (alive_any _).mono ?_)
  rintro e w1 ⟨rfl, hb1⟩
  go_wp2_with fail
  (with_reducible refine (flong_any ops A c w1 (HA.out.below hb1) HL.out hl).mono ?_)
  rintro e w2 ⟨b, rfl, hbl, hb2⟩
  have hbw2 := below_call hb1 hb2
  cases b with
  | true =>
    go_wp2_with fail
    go_ret
    exact ⟨rfl, hbw2⟩
  | false =>
    have h700 := hbl rfl
    clear hbl hb1 hb2
    go_wp2_with fail
    (with_reducible refine (fnew_any w2).mono ?_)
    rintro e w3 ⟨rfl, hF3, hb3⟩
    have hBw := hbw2.size
    have hbw3 := below_call hbw2 hb3
    generalize hBB : w2.heap.size = B at *
    clear hb3 hbw2
    have hs3 := hbw3.size
    have hT : TkS w ((w3.alloc (.cells #[] 37)).alloc (.cells #[] 3)) B (.slice none 0 0) (.slice (some ⟨w3.heap.size, 0, none⟩) 0 0) (.slice (some ⟨w3.heap.size + 1, 0, none⟩) 0 0) [] [] [] [] [] := by
      refine ⟨(hF3.below ((Below.refl _ w3).alloc (Nat.le_refl _) _)).below ((Below.refl _ _).alloc (Nat.le_refl _) _), ?_, ?_, (fun b hb => by cases hb), rfl, (fun j v x h => by simp at h), (fun j v h => by simp at h), (fun j v x h => by simp at h), List.nodup_nil, (fun t h => by cases h), rfl, below_al (below_al hbw3 _) _, (fun x h => by cases h)⟩
      · exact (World.ownsRow_made w3 #[] 0 hs3 (by unfold maxLen; omega) (by simp)).alloc _
      · have := World.ownsRow_made (base := w.heap.size) (e := 3) (size := 1) (w3.alloc (.cells #[] 37)) #[] 0 (by simp; omega) (by unfold maxLen; omega) (by simp)
        simpa using this
    go_wp2_with fail
    generalize ((w3.alloc (.cells #[] 37)).alloc (.cells #[] 3)) = w4 at *
    go_loopw [4, 5, 29] (fun sv tv i wr => ∃ k : Nat, k ≤ ops.length ∧ i = .int .i64 (k : Int) ∧ TkI w wr B sv tv k) (fun _ _ i _ => ops.length - (intOf i).toNat)
    case atStart => exact ⟨0, by omega, rfl, _, [], [], [], [], [], Nat.le_refl _, hT⟩
    case round =>
      obtain ⟨k, hk, rfl, fl, l, S, xs, C, T, hSk, hTk⟩ := hrel
      clear hT hF3
      by_cases hlt : k < ops.length
      · obtain ⟨ad, rfl, B1, cb, hcc, hcb, hB1⟩ := (HA.out.below hTk.bel) k hlt
        obtain ⟨hr1, -⟩ := HL.out ops[k] (List.getElem_mem hlt)
        have hB0 : ∃ B2 c2, (Value.slice B1 ops[k].bytes.length cb = .slice B2 ops[k].bytes.length c2) ∧ ops[k].bytes.length ≤ c2 ∧ RB w B2 ops[k].bytes := by
          obtain ⟨ad0, e0, B2, c2, hc2, hl2, hR2⟩ := HA.out k hlt
          injection e0 with e0
          subst e0
          have h5 := hc2 5 _ rfl
          have h5' := hcc 5 _ rfl
          have h6 := cell_keep hTk.bel h5
          rw [h5'] at h6
          injection h6 with h6
          exact ⟨B2, c2, h6, hl2, hR2⟩
        generalize ops[k] = o at *
        obtain ⟨kd, src, dst, ctl, nn, bytes⟩ := o
        simp only at hcc hcb hB1 hr1 hB0
        have HB1 := Lib.hid hB1
        have HB0 := Lib.hid hB0
        have HTK := Lib.hid hTk
        have hal : Below wr.heap.size wr (wr.alloc (.cells #[.int .i64 kd, .int .i64 src, .int .i64 dst, .bool ctl, .int .i64 nn, .slice B1 bytes.length cb] 31)) := (Below.refl _ wr).alloc (Nat.le_refl _) _
        have hO : Blk (wr.alloc (.cells #[.int .i64 kd, .int .i64 src, .int .i64 dst, .bool ctl, .int .i64 nn, .slice B1 bytes.length cb] 31)) wr.heap.size 31 [.int .i64 kd, .int .i64 src, .int .i64 dst, .bool ctl, .int .i64 nn, .slice B1 bytes.length cb] := Blk.new wr _ _
        have hTa := HTK.out.below hal
        have hBa := HB1.out.below hal
        clear hB1 hB0 hTk
        by_cases hk0 : kd = 0
        · subst hk0
          go_wp2_with (with_reducible refine wl_load rfl 31 (.tmp 31) rfl _ rfl _ _ hcc Try.underlying31 rfl (by kernel_rfl) ?_)
          generalize (wr.alloc (.cells #[.int .i64 0, .int .i64 src, .int .i64 dst, .bool ctl, .int .i64 nn, .slice B1 bytes.length cb] 31)) = wa at *
          have hgB : B < wr.heap.size := HTK.out.fb.blk.lt
          have hflt : ∀ b, fl.ownBlock = some b → b < wr.heap.size := fun b hb => (own_lt HTK.out.fb.own hb).2
          have hBa2 : B ≤ wa.heap.size := Nat.le_of_lt hTa.fb.blk.lt
          have hcn := hTa.cnt
          generalize hgo : wr.heap.size = go_ at *
          clear hcc hgo hal
          by_cases hN : IsN src ∧ IsN dst
          · (with_reducible refine (send_any B B (S.length : Int) fl l xs src dst ctl bytes B1 bytes.length cb wa hN.1 hN.2 hTa.fb hBa2 (by omega) (by omega) rfl hBa hcb (by omega)).mono ?_)
            rintro e w5 ⟨rfl, gb, A5, c5, hc5, fl5, hF5, hrow5, hch5, hat5, -⟩
            have hO5 := hch5.blk hO (by rintro (e | e); omega; have := hflt _ e; omega)
            obtain ⟨o0, o1, o2, o3, o4, o5⟩ := blk6 hO5
            have hol := hO5.lt
            have hs5 := hch5.row hTa.sent (fun b hb e => by
              rcases e with e | e
              · exact own_blk_ne hTa.sent hTa.fb.blk (by decide) b hb e
              · exact hTa.dis b e hb)
            have hb56 : Below w5.heap.size w5 (w5.alloc (.cells #[.int .i64 ((S.length : Int) + 1), .int .i64 src, .int .i64 dst, .bool ctl, .slice B1 bytes.length cb] 37)) := (Below.refl _ w5).alloc (Nat.le_refl _) _
            have hs6 := own_below hs5 hb56
            have hrc := rc_new w5 (ltc ⟨(S.length : Int) + 1, src, dst, ctl⟩ (.slice B1 bytes.length cb)) 37
            have hone : ∀ u ∈ ltc ⟨(S.length : Int) + 1, src, dst, ctl⟩ (.slice B1 bytes.length cb), u.oneCell' = true := by simp [ltc, Value.oneCell']
            have hbz : w.heap.size ≤ (w5.alloc (.cells #[.int .i64 ((S.length : Int) + 1), .int .i64 src, .int .i64 dst, .bool ctl, .slice B1 bytes.length cb] 37)).heap.size := by have := hb56.size; have := hF5.blk.lt; omega
            have HTA := Lib.hid hTa
            clear hO hO5 hBa hTa
            go_wp2_with (at_builtin; refine wl_app _ rfl (.tmp 95) (.tmp 106) 27 rfl w.heap.size 37 i0 (.agg #[.int .i64 0, .int .i64 0, .int .i64 0, .bool false, .slice none 0 0]) 5 56 Try.underlying27 hi hz0 hz1 hz2 rfl (by omega) _ S.length (lcs S) rfl hs6 (some ⟨w5.heap.size, 0, none⟩) 1 1 (ltc ⟨(S.length : Int) + 1, src, dst, ctl⟩ (.slice B1 bytes.length cb)) rfl rfl hrc hone (by unfold maxLen; omega) (by omega) hbz ?_)
            intro v7 w7 hown7 hg7 hat7
            have hT7 := Lib.hid (tk_sent HTA.out hBw hF5 rfl hch5 hat5 hb56 hown7 hg7 hat7 (.inl (by obtain ⟨B2, c2, e, h2, h3⟩ := HB0.out; exact ⟨B2, c2, e, h2, h3⟩)) hr1)
            clear hown7 hg7 hat7 hs5 hs6 hrc hone hb56 hbz o0 o1 o2 o3 o4 o5
            go_wp2_with fail
            go_roundw
            case rel => exact ⟨k + 1, by omega, by go_num, fl5, _, _, _, _, T, by simp; omega, hT7.out⟩
            case measure => simp [intOf]; omega
          · (with_reducible refine (send_no _ src dst ctl _ wa hN).mono ?_)
            rintro e w5 ⟨rfl, rfl⟩
            go_wp2_with fail
            go_roundw
            case rel => exact ⟨k + 1, by omega, by go_num, fl, l, S, xs, C, T, by omega, hTa⟩
            case measure => simp [intOf]; omega
        · have hkf0 : (kd == 0) = false := beq_eq_false_iff_ne.2 hk0
          by_cases hk2 : kd = 2
          · subst hk2
            clear hk0
            go_wp2_with (with_reducible refine wl_load rfl 31 (.tmp 31) rfl _ rfl _ _ hcc Try.underlying31 rfl (by kernel_rfl) ?_)
            generalize (wr.alloc (.cells #[.int .i64 2, .int .i64 src, .int .i64 dst, .bool ctl, .int .i64 nn, .slice B1 bytes.length cb] 31)) = wa at *
            have hBa2 : B ≤ wa.heap.size := Nat.le_of_lt hTa.fb.blk.lt
            have hcn := hTa.cnt
            have hlx : xs.length = l.length := by have := hTa.fb.rows.len; simpa using this.symm
            have hgB : B < wr.heap.size := HTK.out.fb.blk.lt
            have hflt : ∀ b, fl.ownBlock = some b → b < wr.heap.size := fun b hb => (own_lt HTK.out.fb.own hb).2
            generalize hgo : wr.heap.size = go_ at *
            clear hcc hgo hal hBa
            by_cases h0 : l.length = 0
            · obtain rfl : l = [] := List.eq_nil_of_length_eq_zero h0
              (with_reducible refine (nth_none B B _ fl xs nn wa hTa.fb).mono ?_)
              rintro e w5 ⟨rfl, hb5⟩
              have hb6 := below_al hb5 (.cells #[.int .i64 0, .int .i64 0, .int .i64 0, .bool false, .slice none 0 0] 37)
              have hT5 := hTa.below hb6
              have hO5 := hO.kept hb6
              obtain ⟨o0, o1, o2, o3, o4, o5⟩ := blk6 hO5
              clear hTa hb5 hb6 hO
              go_wp2_with fail
              generalize (w5.alloc (.cells #[.int .i64 0, .int .i64 0, .int .i64 0, .bool false, .slice none 0 0] 37)) = w6 at *
              (with_reducible refine (copy_none B B _ fl xs nn w6 hT5.fb).mono ?_)
              rintro e w7 ⟨rfl, hb7⟩
              have hT7 := hT5.below hb7
              clear hT5 hb7 o0 o1 o2 o3 o4 o5 hO5
              go_wp2_with fail
              go_quiet (fail)
              have hT8 := hT7.below (below_dn w7 nq)
              go_wp2_with fail
              go_roundw
              case rel => exact ⟨k + 1, by omega, by go_num, fl, [], S, xs, C, T, by omega, hT8⟩
              case measure => simp [intOf]; omega
            · have hlp : 0 < l.length := by omega
              have hpl := pl_lt nn l.length hlp
              obtain ⟨p, hp⟩ : ∃ p, pl nn l.length = p := ⟨_, rfl⟩
              rw [hp] at hpl
              obtain ⟨⟨h, v⟩, hv⟩ : ∃ hv, l[p]? = some hv := ⟨_, List.getElem?_eq_getElem hpl⟩
              obtain ⟨x, hx⟩ : ∃ x, xs[p]? = some x := ⟨_, List.getElem?_eq_getElem (by omega)⟩
              have hxl := hTa.xl x (List.mem_of_getElem? hx)
              obtain ⟨Av, kv, cv, hvv⟩ := hTa.fb.slices (h, v) (List.mem_of_getElem? hv)
              simp only at hvv
              subst hvv
              have hro := hTa.fb.rows.own p (.slice Av kv cv) x (by rw [List.getElem?_map, hv]; rfl) hx
              obtain ⟨A0, c0', e0, -, -, -⟩ := own_form hro
              injection e0 with e1 e2 e3
              subst e2
              clear hro e1 e3
              obtain ⟨hid0, hsrc0, hdst0, hctl0⟩ := h
              (with_reducible refine (nth_some B B (S.length : Int) fl l xs nn p ⟨hid0, hsrc0, hdst0, hctl0⟩ Av x.length cv x wa hTa.fb hlp (by omega) hp hv hx (by omega)).mono ?_)
              rintro e w5 ⟨A5, c5, rfl, hc5, hrow5, hb5⟩
              have hb6 := below_al hb5 (.cells #[.int .i64 hid0, .int .i64 hsrc0, .int .i64 hdst0, .bool hctl0, .slice A5 x.length c5] 37)
              have hX6 : Blk (w5.alloc (.cells #[.int .i64 hid0, .int .i64 hsrc0, .int .i64 hdst0, .bool hctl0, .slice A5 x.length c5] 37)) w5.heap.size 37 [.int .i64 hid0, .int .i64 hsrc0, .int .i64 hdst0, .bool hctl0, .slice A5 x.length c5] := Blk.new w5 _ _
              have hrow6 := hrow5.alloc (.cells #[.int .i64 hid0, .int .i64 hsrc0, .int .i64 hdst0, .bool hctl0, .slice A5 x.length c5] 37)
              have hg5 := hb5.size
              have hO6 := hO.kept hb6
              obtain ⟨o0, o1, o2, o3, o4, o5⟩ := blk6 hO6
              clear hrow5 hb5 hO
              go_wp2_with fail
              generalize (w5.alloc (.cells #[.int .i64 hid0, .int .i64 hsrc0, .int .i64 hdst0, .bool hctl0, .slice A5 x.length c5] 37)) = w6 at *
              have hT6 := hTa.below hb6
              have hs6 := hb6.size
              generalize hg6 : w5.heap.size = g6 at *
              (with_reducible refine (copy_some B B (S.length : Int) fl l xs nn p ⟨hid0, hsrc0, hdst0, hctl0⟩ Av x.length cv x w6 hT6.fb (by omega) hlp (by omega) (by omega) hp hv hx rfl (by omega)).mono ?_)
              rintro e w7 ⟨rfl, w0, hs0, hb0, gb, A7, c7, hc7, fl7, hF7, hrow7, hch7, hat7, -⟩
              have hX0 := hX6.kept hb0
              have hXlt := hX6.lt
              have hBlt := hTa.fb.blk.lt
              have hX7 := hch7.blk hX0 (by rintro (e | e); omega; have := (own_lt hTa.fb.own e).2; omega)
              clear o0 o1 o2 o3 o4 o5 hO6 hT6
              go_wp2_with fail
              go_quiet (fail)
              have hX8 : Blk (w7.drewN nq) g6 37 [.int .i64 hid0, .int .i64 hsrc0, .int .i64 hdst0, .bool hctl0, .slice A5 x.length c5] := hX7
              obtain ⟨x0, x1, x2, x3, x4⟩ := blk5l hX8
              obtain ⟨z0, z1, z2, z3, z4⟩ := frz5l hX8
              have hX8l := hX8.lt
              have hG8 : w7.grownBy ((w7.drewN nq).setCell ⟨g6, 0, none⟩ (.int .i64 ((S.length : Int) + 1))) (some g6) := (grown_of_below (below_dn w7 nq)).trans (grown_set _ g6 0 _)
              have hF8 := hF7.grown hG8 (fun b hb => by injection hb with hb; omega) (fun b hb e => by
                injection hb with hb
                rcases hat7 with h7 | ⟨q, h7, hq⟩
                · rw [h7] at e
                  have := (own_lt hTa.fb.own e).2
                  omega
                · rw [h7] at e
                  injection e with e
                  omega) (fun b hb u n ys ho e => by injection hb with hb; exact own_blk_ne ho hX7 (by decide) b e hb.symm)
              have hch0 : Chg wa w7 (fun b => b = B ∨ fl.ownBlock = some b) := (Chg.of_below (below_call hb6 hb0)).trans hch7
              have hch8 := hch0.fresh hG8 (fun b hb hlt => by injection hb with hb; omega)
              have hat8 : fl7.ownBlock = fl.ownBlock ∨ ∃ b, fl7.ownBlock = some b ∧ wa.heap.size ≤ b := by
                rcases hat7 with h7 | ⟨q, h7, hq⟩
                · exact .inl h7
                · exact .inr ⟨q, h7, by omega⟩
              have hs8 := hch8.row hTa.sent (fun b hb e => by
                rcases e with e | e
                · exact own_blk_ne hTa.sent hTa.fb.blk (by decide) b hb e
                · exact hTa.dis b e hb)
              have hrow0 := own_below hrow6 hb0
              have hF0 := (hTa.below hb6).fb.below hb0
              have hrow7' := hch7.row hrow0 (fun b hb e => by
                rcases e with e | e
                · exact own_blk_ne hrow0 hF0.blk (by decide) b hb e
                · exact own_not_types hrow0 hF0.own (by decide) b hb e)
              have hrow8 := own_weaken ((Chg.of hG8 (S := fun b => b = g6) (fun b hb => by injection hb with hb; exact hb.symm)).row hrow7' (fun b hb e => own_blk_ne hrow7' hX7 (by decide) b hb e)) hTa.bel.size
              have hX9 : Blk ((w7.drewN nq).setCell ⟨g6, 0, none⟩ (.int .i64 ((S.length : Int) + 1))) g6 37 [.int .i64 ((S.length : Int) + 1), .int .i64 hsrc0, .int .i64 hdst0, .bool hctl0, .slice A5 x.length c5] := by simpa using hX8.set_ 0 (.int .i64 ((S.length : Int) + 1))
              have hsz : ((w7.drewN nq).setCell ⟨g6, 0, none⟩ (.int .i64 ((S.length : Int) + 1))).heap.size = w7.heap.size := by simp [World.drewN]
              have hrc := rc_new ((w7.drewN nq).setCell ⟨g6, 0, none⟩ (.int .i64 ((S.length : Int) + 1))) (ltc ⟨(S.length : Int) + 1, hsrc0, hdst0, hctl0⟩ (.slice A5 x.length c5)) 37
              have hone : ∀ u ∈ ltc ⟨(S.length : Int) + 1, hsrc0, hdst0, hctl0⟩ (.slice A5 x.length c5), u.oneCell' = true := by simp [ltc, Value.oneCell']
              have HX := Lib.hid hX9
              have HTA := Lib.hid hTa
              clear hTa hF7 hrow6 hrow0 hF0 hrow7' hX0 hX7 hch0 hX6
              go_upto_region 30 with (fail)
              generalize hw8 : (w7.drewN nq).setCell ⟨g6, 0, none⟩ (.int .i64 ((S.length : Int) + 1)) = w8 at *
              clear x0 x1 x2 x3 x4 z0 z1 z2 z3 z4 hX8
              obtain ⟨x0, x1, x2, x3, x4⟩ := blk5l HX.out
              have hb89 : Below w8.heap.size w8 (w8.alloc (.cells #[.int .i64 ((S.length : Int) + 1), .int .i64 hsrc0, .int .i64 hdst0, .bool hctl0, .slice A5 x.length c5] 37)) := (Below.refl _ w8).alloc (Nat.le_refl _) _
              have hs9 := own_below hs8 hb89
              have hbz : w.heap.size ≤ (w8.alloc (.cells #[.int .i64 ((S.length : Int) + 1), .int .i64 hsrc0, .int .i64 hdst0, .bool hctl0, .slice A5 x.length c5] 37)).heap.size := by have := hb89.size; have := hF8.blk.lt; omega
              clear hw8 hsz hG8
              go_wp2_with (at_builtin; refine wl_app _ rfl (.tmp 133) (.tmp 135) 27 rfl w.heap.size 37 i0 (.agg #[.int .i64 0, .int .i64 0, .int .i64 0, .bool false, .slice none 0 0]) 5 56 Try.underlying27 hi hz0 hz1 hz2 rfl (by omega) _ S.length (lcs S) rfl hs9 (some ⟨w8.heap.size, 0, none⟩) 1 1 (ltc ⟨(S.length : Int) + 1, hsrc0, hdst0, hctl0⟩ (.slice A5 x.length c5)) rfl rfl hrc hone (by unfold maxLen; omega) (by omega) hbz ?_)
              intro v9 w9 hown9 hg9 hat9
              have hT9 := Lib.hid (tk_sent HTA.out hBw hF8 rfl hch8 hat8 hb89 hown9 hg9 hat9 (.inr (own_below hrow8 hb89)) hxl)
              clear hown9 hg9 hat9 hs8 hs9 hrc hone hb89 hbz x0 x1 x2 x3 x4 hF8 hch8 hat8 hrow8
              go_wp2_with fail
              go_roundw
              case rel => exact ⟨k + 1, by omega, by go_num, fl7, _, _, _, _, T, by simp; omega, hT9.out⟩
              case measure => simp [intOf]; omega
          · have hkf2 : (kd == 2) = false := beq_eq_false_iff_ne.2 hk2
            clear hk0 hk2
            go_wp2_with (with_reducible refine wl_load rfl 31 (.tmp 31) rfl _ rfl _ _ hcc Try.underlying31 rfl (by kernel_rfl) ?_)
            generalize (wr.alloc (.cells #[.int .i64 kd, .int .i64 src, .int .i64 dst, .bool ctl, .int .i64 nn, .slice B1 bytes.length cb] 31)) = wa at *
            have hBa2 : B ≤ wa.heap.size := Nat.le_of_lt hTa.fb.blk.lt
            have hcn := hTa.cnt
            have hlx : xs.length = l.length := by have := hTa.fb.rows.len; simpa using this.symm
            clear hcc hal hO hBa
            by_cases h0 : l.length = 0
            · obtain rfl : l = [] := List.eq_nil_of_length_eq_zero h0
              (with_reducible refine (take_none B B _ fl xs nn wa hTa.fb).mono ?_)
              rintro e w5 ⟨rfl, hb5⟩
              have hT5 := hTa.below (below_al hb5 (.cells #[.int .i64 0, .int .i64 0, .int .i64 0, .bool false, .slice none 0 0] 37))
              clear hTa
              go_wp2_with fail
              generalize (w5.alloc (.cells #[.int .i64 0, .int .i64 0, .int .i64 0, .bool false, .slice none 0 0] 37)) = w6 at *
              have q6 := er_neq 6 6 w6
              (with_reducible refine (flen_i B B _ fl [] xs 0 w6 hT5.fb rfl).mono ?_)
              rintro e w7 ⟨rfl, rfl⟩
              go_wp2_with fail
              go_roundw
              case rel => exact ⟨k + 1, by omega, by go_num, fl, [], S, xs, C, T, by omega, hT5⟩
              case measure => simp [intOf]; omega
            · have hlp : 0 < l.length := by omega
              have hpl := pl_lt nn l.length hlp
              obtain ⟨p, hp⟩ : ∃ p, pl nn l.length = p := ⟨_, rfl⟩
              rw [hp] at hpl
              obtain ⟨⟨h, v⟩, hv⟩ : ∃ hv, l[p]? = some hv := ⟨_, List.getElem?_eq_getElem hpl⟩
              obtain ⟨x, hx⟩ : ∃ x, xs[p]? = some x := ⟨_, List.getElem?_eq_getElem (by omega)⟩
              have hxl := hTa.xl x (List.mem_of_getElem? hx)
              obtain ⟨Av, kv, cv, hvv⟩ := hTa.fb.slices (h, v) (List.mem_of_getElem? hv)
              simp only at hvv
              subst hvv
              have hro := hTa.fb.rows.own p (.slice Av kv cv) x (by rw [List.getElem?_map, hv]; rfl) hx
              obtain ⟨A0, c0', e0, -, -, -⟩ := own_form hro
              injection e0 with e1 e2 e3
              subst e2
              clear hro e1 e3
              obtain ⟨i, s, hi1, hi2, hi3⟩ := hTa.mem p _ x hv hx
              simp only at hi2
              have hid := hTa.ids i s hi1
              have hil := (List.getElem?_eq_some_iff.1 hi1).1
              have hsi : S[i] = s := (List.getElem?_eq_some_iff.1 hi1).2
              rw [hi2] at hid
              obtain ⟨hid0, hsrc0, hdst0, hctl0⟩ := h
              simp only at hid
              subst hid
              (with_reducible refine (take_some B B (S.length : Int) fl l xs nn p ⟨(i : Int) + 1, hsrc0, hdst0, hctl0⟩ Av x.length cv x wa hTa.fb hBa2 hlp (by omega) hp hv hx (by omega)).mono ?_)
              rintro e w5 ⟨A5, c5, rfl, hc5, htq⟩
              have htq0 := Lib.hid htq
              obtain ⟨fl5, hF5, -, hch5, -⟩ := htq
              have ht5 := hch5.row hTa.taken (fun b hb e => by
                rcases e with e | e
                · exact own_blk_ne hTa.taken hTa.fb.blk (by decide) b hb e
                · exact own_not_types hTa.taken hTa.fb.own (by decide) b hb e)
              have hb56 : Below w5.heap.size w5 ((w5.alloc (.cells #[.int .i64 ((i : Int) + 1), .int .i64 hsrc0, .int .i64 hdst0, .bool hctl0, .slice A5 x.length c5] 37)).alloc (.cells #[.int .i64 ((i : Int) + 1)] 3)) := below_al ((Below.refl _ w5).alloc (Nat.le_refl _) _) _
              have hX6 : Blk ((w5.alloc (.cells #[.int .i64 ((i : Int) + 1), .int .i64 hsrc0, .int .i64 hdst0, .bool hctl0, .slice A5 x.length c5] 37)).alloc (.cells #[.int .i64 ((i : Int) + 1)] 3)) w5.heap.size 37 [.int .i64 ((i : Int) + 1), .int .i64 hsrc0, .int .i64 hdst0, .bool hctl0, .slice A5 x.length c5] := (Blk.new w5 _ _).alloc _
              have ht6 := own_below ht5 hb56
              have hrc : RC ((w5.alloc (.cells #[.int .i64 ((i : Int) + 1), .int .i64 hsrc0, .int .i64 hdst0, .bool hctl0, .slice A5 x.length c5] 37)).alloc (.cells #[.int .i64 ((i : Int) + 1)] 3)) (some ⟨w5.heap.size + 1, 0, none⟩) [.int .i64 ((i : Int) + 1)] := by
                have := rc_new (w5.alloc (.cells #[.int .i64 ((i : Int) + 1), .int .i64 hsrc0, .int .i64 hdst0, .bool hctl0, .slice A5 x.length c5] 37)) [.int .i64 ((i : Int) + 1)] 3
                simpa using this
              have hone : ∀ u ∈ [Value.int .i64 ((i : Int) + 1)], u.oneCell' = true := fun u hu => by simp only [List.mem_singleton] at hu; rw [hu]; rfl
              have hbz : w.heap.size ≤ ((w5.alloc (.cells #[.int .i64 ((i : Int) + 1), .int .i64 hsrc0, .int .i64 hdst0, .bool hctl0, .slice A5 x.length c5] 37)).alloc (.cells #[.int .i64 ((i : Int) + 1)] 3)).heap.size := by have := hb56.size; have := hF5.blk.lt; omega
              have HTA := Lib.hid hTa
              have HV := Lib.hid hv
              have HS1 := Lib.hid hi1
              have HS3 := Lib.hid hi3
              have HSI := Lib.hid hsi
              have HS2 := Lib.hid hi2
              clear hTa ht5 hv hx hi1 hi3 hsi hi2 hp
              go_wp2_with (at_builtin; refine wl_app _ rfl (.tmp 52) (.tmp 55) 28 rfl w.heap.size 3 i1 (.int .i64 0) 1 8 Try.underlying28 hj hy0 hy1 hy2 rfl (by omega) _ T.length (T.map (Value.int .i64)) rfl ht6 (some ⟨w5.heap.size + 1, 0, none⟩) 1 1 [.int .i64 ((i : Int) + 1)] rfl rfl hrc hone (by unfold maxLen; omega) (by omega) hbz ?_)
              intro v7 w7 hown7 hg7 hat7
              have hX7 := hX6.grown hg7 (fun e => own_blk_ne ht6 hX6 (by decide) _ e.symm rfl)
              obtain ⟨⟨fl7, hT7⟩, hrow7⟩ := tk_take HTA.out hBw HV.out htq0.out hb56 hown7 hg7
              have hR7 : RB w7 A5 x := RC.of_ownS hrow7
              obtain ⟨As, cs_, hse, hcs, hRs⟩ := (hT7.kp i s x HS1.out HS3.out).rb hT7.bel
              clear hown7 hg7 hat7 hX6 ht6 hrc hone hb56 hbz hrow7 htq0
              rcases hT7.sent.2 with ⟨hsv, h0'⟩ | ⟨g, cap, cur, hsv, -, -, hcap, -⟩
              · omega
              subst hsv
              have hcl : ∀ q, q < 5 → w7.cell? ⟨g, i * 5 + q, none⟩ = (ltc s.1 s.2)[q]? := fun q hq => by
                rw [hT7.sent.cellAt (i * 5 + q) (by omega), lcs_get S i q hil hq, HSI.out]
              rw [hse, HS2.out] at hcl
              have y0 := hcl 0 (by omega)
              have y1 := hcl 1 (by omega)
              have y2 := hcl 2 (by omega)
              have y3 := hcl 3 (by omega)
              have y4 := hcl 4 (by omega)
              simp only [ltc, List.getElem?_cons_zero, List.getElem?_cons_succ, Nat.add_zero] at y0 y1 y2 y3 y4
              obtain ⟨x0, x1, x2, x3, x4⟩ := blk5l hX7
              have f1 : decide ((i : Int) + 1 < 1) = false := decide_eq_false (by omega)
              have f2 : decide ((S.length : Int) < (i : Int) + 1) = false := decide_eq_false (by omega)
              have q1 : (i : Int) < (S.length : Int) := by omega
              have q0 : (0 : Int) ≤ (i : Int) := by omega
              have w8 : IntKind.i64.wrap (i : Int) = (i : Int) := IntWalk.i64_in _ (by omega)
              have w8' : IntKind.i64.wrap ((i : Int) + 1 - 1) = (i : Int) := by rw [show (i : Int) + 1 - 1 = (i : Int) by omega]; exact w8
              have hcur : Below w7.heap.size w7 w7.drew := Below.drew (Below.refl _ _)
              have hT7' := Lib.hid hT7
              generalize hg0 : w5.heap.size = g0 at *
              clear hcl hT7 hse hX7 hg0 hF5 hch5
              go_wp2_with fail
              go_region_held3 (fun w' => w'.cell? ⟨g0, 0, none⟩ = some (.int .i64 ((i : Int) + 1)) ∧ w'.cell? ⟨g0, 1, none⟩ = some (.int .i64 hsrc0) ∧ w'.cell? ⟨g0, 2, none⟩ = some (.int .i64 hdst0) ∧ w'.cell? ⟨g0, 3, none⟩ = some (.bool hctl0) ∧ w'.cell? ⟨g0, 4, none⟩ = some (.slice A5 x.length c5)
                  ∧ w'.cell? ⟨g, i * 5, none⟩ = some (.int .i64 ((i : Int) + 1)) ∧ w'.cell? ⟨g, i * 5 + 1, none⟩ = some (.int .i64 hsrc0) ∧ w'.cell? ⟨g, i * 5 + 2, none⟩ = some (.int .i64 hdst0) ∧ w'.cell? ⟨g, i * 5 + 3, none⟩ = some (.bool hctl0) ∧ w'.cell? ⟨g, i * 5 + 4, none⟩ = some (.slice As x.length cs_))
                (with_reducible exact ⟨cell_keep hcur x0, cell_keep hcur x1, cell_keep hcur x2, cell_keep hcur x3, cell_keep hcur x4, cell_keep hcur y0, cell_keep hcur y1, cell_keep hcur y2, cell_keep hcur y3, cell_keep hcur y4⟩)
                (first
                  | (go_at_call 17; (with_reducible refine (rlike_same ⟨(i : Int) + 1, hsrc0, hdst0, hctl0⟩ As A5 cs_ c5 x x.length _ rfl (hRs.below hcur) (hR7.below hcur)).mono ?_); rintro e w9 ⟨rfl, hb9⟩; replace hcur := below_call hcur hb9))
              all_goals
                have hT9 := hT7'.out.below hcur
                clear x0 x1 x2 x3 x4 y0 y1 y2 y3 y4
                go_wp2_with fail
                go_roundw
                case rel => exact ⟨k + 1, by omega, by go_num, fl7, _, S, _, C, _, by omega, hT9⟩
                case measure => simp [intOf]; omega
      · obtain rfl : k = ops.length := by omega
        have hnd : T.Nodup := (List.nodup_append.1 hTk.nodup).2.1
        have hne : ∀ (a b : Nat) (ha : a < T.length) (hb : b < a), (T[a] == T[b]'(by omega)) = false := fun a b ha hb => by
          have := List.pairwise_iff_getElem.1 hnd b a (by omega) ha hb
          exact beq_eq_false_iff_ne.2 (fun e => this e.symm)
        have hcn := hTk.cnt
        obtain ⟨As, cs_, rfl, -, -, -⟩ := own_formS hTk.sent
        obtain ⟨At_, ct, rfl, hct, -, -⟩ := own_formS hTk.taken
        have hcell : ∀ (j : Nat) (h : j < T.length), ∃ ad, At_ = some ad ∧ wr.cell? (ad.add j) = some (.int .i64 T[j]) := fun j h => RC.of_ownS hTk.taken j _ (by simp [h])
        have hbel := hTk.bel
        have hfb := hTk.fb
        have HC := Lib.hid hcell
        have HNE := Lib.hid hne
        have w9 : IntKind.i64.wrap ((l.length : Int) + (T.length : Int)) = (l.length : Int) + (T.length : Int) := IntWalk.i64_in _ (by omega)
        have h42 : ((l.length : Int) + (T.length : Int) == (S.length : Int)) = true := by simp; omega
        have hT700 : T.length ≤ 700 := by omega
        clear hcell hne hnd hTk hcn hlt
        go_wp2_with fail
        go_loop [140] (fun i => ∃ a : Nat, a ≤ T.length ∧ i = .int .i64 (a : Int)) (fun i => T.length - (intOf i).toNat)
        case atStart => exact ⟨0, Nat.zero_le _, rfl⟩
        case round =>
          obtain ⟨a, ha, rfl⟩ := hrel
          by_cases hal : a < T.length
          · obtain ⟨ad, rfl, hca⟩ := HC.out a hal
            have HN2 := Lib.hid (fun b hb => HNE.out a b hal hb)
            have hct2 : a ≤ ct := by omega
            generalize T[a] = ta at *
            go_wp2_with fail
            go_loop [149] (fun i => ∃ b : Nat, b ≤ a ∧ i = .int .i64 (b : Int)) (fun i => a - (intOf i).toNat)
            case atStart => exact ⟨0, Nat.zero_le _, rfl⟩
            case round =>
              obtain ⟨b, hb, rfl⟩ := hrel
              by_cases hbl : b < a
              · obtain ⟨ad2, e2, hcb⟩ := HC.out b (by omega)
                injection e2 with e2
                subst e2
                have hq := HN2.out b hbl
                generalize T[b] = tb at *
                go_wp2_with fail
                go_round
                case rel => exact ⟨b + 1, by omega, by go_num⟩
                case measure => simp [intOf]; omega
              · go_wp2_with fail
                go_round
                case rel => exact ⟨a + 1, by omega, by go_num⟩
                case measure => simp [intOf]; omega
          · go_wp2_with fail
            (with_reducible refine (flen_any B B _ fl l xs wr hfb).mono ?_)
            rintro e w6 ⟨rfl, rfl⟩
            go_wp2_with fail
            go_ret
            exact ⟨rfl, hbel⟩
end Go.Proofs.Ytikichifdkgobaa
