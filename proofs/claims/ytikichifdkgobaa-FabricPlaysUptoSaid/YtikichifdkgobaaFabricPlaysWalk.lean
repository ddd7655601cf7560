/- The walk of FabricPlays. -/
import Derived.Test.YtikichifdkgobaaFabricTakesWalk
import Derived.Test.YtikichifdkgobaaFabPl
namespace Go.Proofs.Ytikichifdkgobaa
set_option linter.unusedVariables false
set_option linter.unusedSimpArgs false
open Go.RowKit

def PlI (w wr : World) (B gm k : Nat) : Prop := ∃ (last : Nat) (fl ml : Value) (l l2 : List (Lh × Value)) (xs : List (List UInt8)), Pl w wr B B gm (last : Int) fl ml l l2 xs ∧ l.length ≤ k ∧ last ≤ k
theorem between_ids (base gf : Nat) (last : Int) (fl : Value) (l : List (Lh × Value)) (xs : List (List UInt8)) (a b : Int) (ids : List Int) (w : World) (hF : Fb w base gf last fl l xs) (hl : l.length ≤ 4096) (hi : btw l a b = ids) :
    Calls Try.prog 20 #[.pointer (some ⟨gf, 0, none⟩), .int .i64 a, .int .i64 b] w fun e w' => (∃ A c, e = .returned (.slice A ids.length c) ∧ RC w' A (ids.map (Value.int .i64))) ∧ Below w.heap.size w w' := by
  subst hi
  exact (between_any base gf last fl l xs a b w hF hl).mono fun e w' ⟨⟨A, c, he, ho⟩, hb⟩ => ⟨⟨A, c, he, RC.of_ownS ho⟩, hb⟩
theorem rbetween_ids (base gm : Nat) (last : Int) (ml : Value) (l : List (Lh × Value)) (xs : List (List UInt8)) (a b : Int) (ids : List Int) (w : World) (hF : Rb w base gm last ml l xs) (hl : l.length ≤ 4096) (hi : btw l a b = ids) :
    Calls Try.prog 31 #[.pointer (some ⟨gm, 0, none⟩), .int .i64 a, .int .i64 b] w fun e w' => (∃ A c, e = .returned (.slice A ids.length c) ∧ RC w' A (ids.map (Value.int .i64))) ∧ Below w.heap.size w w' := by
  subst hi
  exact (rbetween_any base gm last ml l xs a b w hF hl).mono fun e w' ⟨⟨A, c, he, ho⟩, hb⟩ => ⟨⟨A, c, he, RC.of_ownS ho⟩, hb⟩
theorem ints_same (xs : List Int) (A B : Option Addr) (c d : Nat) (w : World) (hA : RC w A (xs.map (Value.int .i64))) (hB : RC w B (xs.map (Value.int .i64))) (hx : xs.length ≤ 4000000) :
    Calls Try.prog 30 #[.slice A xs.length c, .slice B xs.length d] w fun e w' => e = .returned (.bool true) ∧ Below w.heap.size w w' :=
  (ints_any xs xs A B c d w hA hB hx).mono fun e w' ⟨he, hb⟩ => ⟨by rw [he, decide_eq_true rfl], hb⟩
theorem ows_step {wx w' : World} {base j : Nat} {vs : List Value} {xs : List (List UInt8)} (h : Ows wx base (vs.drop j) (xs.drop j)) (hp : vs.Pairwise (fun u v => ∀ b, u.ownBlock = some b → v.ownBlock ≠ some b)) (hj : j < vs.length) (hg : wx.grownBy w' vs[j].ownBlock) : Ows w' base (vs.drop (j + 1)) (xs.drop (j + 1)) := by
  have h1 := h.drop 1
  rw [List.drop_drop, List.drop_drop] at h1
  have h2 := hp.sublist (List.drop_sublist j vs)
  rw [List.drop_eq_getElem_cons hj] at h2
  have h3 := (List.pairwise_cons.1 h2).1
  exact h1.chg (Chg.of hg (S := fun b => vs[j].ownBlock = some b) (fun b hb => hb)) (fun v hv b hb e => h3 v hv b e hb)
set_option maxRecDepth 100000 in
set_option maxHeartbeats 6400000 in
theorem FabricPlays_walk (ops : List FOp) (A : Option Addr) (c : Nat) (w : World) (hA : OpsAt w A ops) (hL : OpsLe ops) (hl : ops.length ≤ 1048576) :
    Calls Try.prog 7 #[.slice A ops.length c] w fun e w' => e = .returned (.bool true) ∧ Below w.heap.size w w' := by
  have HL := Lib.hid hL
  have HA := Lib.hid hA
  clear hL hA
  go_enter Try.func7, Try.ntmps7
  go_wp2_with fail
  (with_reducible refine (alive_any _).mono ?_)
  rintro e w1 ⟨rfl, hb1⟩
  go_wp2_with fail
  (with_reducible refine (flong_any ops A c w1 (HA.out.below hb1) HL.out hl).mono ?_)
  rintro e w2 ⟨b, rfl, hbl, hb2⟩
  have hbw2 := below_call hb1 hb2
  cases b with
  | true =>
    go_wp2_with fail
    go_ret
    exact ⟨rfl, hbw2⟩
  | false =>
    have h700 := hbl rfl
    clear hbl hb1 hb2
    go_wp2_with fail
    (with_reducible refine (fnew_any w2).mono ?_)
    rintro e w3 ⟨rfl, hF3, hb3⟩
    have hBw := hbw2.size
    have hbw3 := below_call hbw2 hb3
    have hB3 := hb3.size
    generalize hBB : w2.heap.size = B at *
    clear hb3 hbw2
    have hal3 : Below w3.heap.size w3 (w3.alloc (.cells #[.slice none 0 0, .int .i64 0] 55)) := (Below.refl _ w3).alloc (Nat.le_refl _) _
    have hT : Pl w (w3.alloc (.cells #[.slice none 0 0, .int .i64 0] 55)) B B w3.heap.size 0 (.slice none 0 0) (.slice none 0 0) [] [] [] :=
      ⟨hF3.below hal3, ⟨Blk.new w3 _ _, World.ownsRow_nil _ _ _ _, Ows.nil _ _⟩, rfl, (fun b hb => by cases hb), (fun x hx => by cases hx), below_call hbw3 hal3, ⟨hBw, Nat.le_refl _, hB3, Nat.le_trans hB3 hal3.size⟩⟩
    clear hF3 hbw3 hal3
    go_wp2_with fail
    generalize (w3.alloc (.cells #[.slice none 0 0, .int .i64 0] 55)) = w4 at *
    generalize hgm : w3.heap.size = gm at *
    go_loopw [36] (fun i wr => ∃ k : Nat, k ≤ ops.length ∧ i = .int .i64 (k : Int) ∧ PlI w wr B gm k) (fun i _ => ops.length - (intOf i).toNat)
    case atStart => exact ⟨0, by omega, rfl, 0, _, _, _, _, _, hT, Nat.le_refl _, Nat.le_refl _⟩
    case round =>
      obtain ⟨k, hk, rfl, last, fl, ml, l, l2, xs, hTk, hlk, hlak⟩ := hrel
      clear hT
      by_cases hlt : k < ops.length
      · obtain ⟨ad, rfl, B1, cb, hcc, hcb, hB1⟩ := (HA.out.below hTk.bel) k hlt
        obtain ⟨hr1, -⟩ := HL.out ops[k] (List.getElem_mem hlt)
        have hB0 : RB w B1 ops[k].bytes := by
          obtain ⟨ad0, e0, B2, c2, hc2, hl2, hR2⟩ := HA.out k hlt
          injection e0 with e0
          subst e0
          have h5 := hc2 5 _ rfl
          have h5' := hcc 5 _ rfl
          have h6 := cell_keep hTk.bel h5
          rw [h5'] at h6
          injection h6 with h6
          injection h6 with h7 h8 h9
          rw [h7]
          exact hR2
        clear hB1
        generalize ops[k] = o at *
        obtain ⟨kd, src, dst, ctl, nn, bytes⟩ := o
        simp only at hcc hcb hB0 hr1
        have HB1 := Lib.hid hB0
        have HTK := Lib.hid hTk
        clear hB0 hTk
        go_upto_block 2 with (with_reducible refine wl_load rfl 31 (.tmp 38) rfl _ rfl _ _ hcc Try.underlying31 rfl (by kernel_rfl) ?_)
        have hal : Below wr.heap.size wr (wr.alloc (.cells #[.int .i64 kd, .int .i64 src, .int .i64 dst, .bool ctl, .int .i64 nn, .slice B1 bytes.length cb] 31)) := (Below.refl _ wr).alloc (Nat.le_refl _) _
        have hO : Blk (wr.alloc (.cells #[.int .i64 kd, .int .i64 src, .int .i64 dst, .bool ctl, .int .i64 nn, .slice B1 bytes.length cb] 31)) wr.heap.size 31 [.int .i64 kd, .int .i64 src, .int .i64 dst, .bool ctl, .int .i64 nn, .slice B1 bytes.length cb] := Blk.new wr _ _
        have hTa := HTK.out.below hal
        have hbwa := hTa.bel
        have hBa := HB1.out.below hbwa
        generalize (wr.alloc (.cells #[.int .i64 kd, .int .i64 src, .int .i64 dst, .bool ctl, .int .i64 nn, .slice B1 bytes.length cb] 31)) = wa at *
        obtain ⟨hlen2, hlenx⟩ := hTa.len
        generalize wr.heap.size = go_ at *
        clear hcc hal
        go_cut [7] (fun v wx => v = .bool true ∧ Hid (PlI w wx B gm (k + 1)))
        case first =>
          obtain ⟨o0, o1, o2, o3, o4, o5⟩ := blk6 hO
          have hBa2 : B ≤ wa.heap.size := hTa.ids.2.2.2
          by_cases hk0 : kd = 0
          · as_aux_lemma =>
              subst hk0
              go_wp2_with fail
              (with_reducible refine (copy_any bytes B1 cb wa hBa hcb (by omega)).mono ?_)
              rintro e w1 ⟨g, rfl, hgw, hgb, hb1⟩
              have hT1 := hTa.below hb1
              have hO1 := hO.kept hb1
              have hR1 := marked_rb hgb
              obtain ⟨p0, p1, p2, p3, p4, p5⟩ := blk6 hO1
              clear o0 o1 o2 o3 o4 o5
              go_wp2_with fail
              by_cases hN : IsN src ∧ IsN dst
              · (with_reducible refine (send_any B B (last : Int) fl l xs src dst ctl bytes (some ⟨g, 0, none⟩) bytes.length (bytes.length + 2) w1 hN.1 hN.2 hT1.fb hT1.ids.2.2.2 (by omega) (by omega) rfl hR1 (by omega) (by omega)).mono ?_)
                rintro e w2 ⟨rfl, gb, A2, c2, hc2, hf2⟩
                have HF2 := Lib.hid hf2
                obtain ⟨fl2, hF2, hrow2, hch2, hat2, -⟩ := hf2
                obtain ⟨m1, m2, m3, m4⟩ := pl_mid hT1 hch2 hat2
                have hO2 := hch2.blk hO1 (fun e => by
                  rcases e with e | e
                  · exact blk_ne_blk hO1 hT1.fb.blk (by decide) e
                  · exact own_blk_ne hT1.fb.own hO1 (by decide) _ e rfl)
                have hgb2 := hch2.blk hgb (fun e => by
                  rcases e with e | e
                  · exact blk_ne_blk hgb hT1.fb.blk (by decide) e
                  · exact own_blk_ne hT1.fb.own hgb (by decide) _ e rfl)
                obtain ⟨q0, q1, q2, q3, q4, q5⟩ := blk6 hO2
                have hB2 := HB1.out.below m3
                have M1 := Lib.hid m1
                clear p0 p1 p2 p3 p4 p5 hF2 hrow2 hch2 hat2 m1
                go_wp2_with fail
                (with_reducible refine (rsend_some B gm (last : Int) ml l2 xs src dst ctl bytes B1 bytes.length cb w2 hN.1 hN.2 M1.out m4 (by omega) (by omega) rfl hB2 hcb (by omega)).mono ?_)
                rintro e w5 ⟨rfl, hr5⟩
                have HR5 := Lib.hid hr5
                obtain ⟨A5, c5, ml5, hR5, hrow5, hch5, hat5⟩ := hr5
                have hO5 := hch5.blk hO2 (fun e => by
                  rcases e with e | e
                  · exact blk_ne_blk hO2 M1.out.blk (by decide) e
                  · exact own_blk_ne M1.out.own hO2 (by decide) _ e rfl)
                have hgb5 := hch5.blk hgb2 (fun e => by
                  rcases e with e | e
                  · exact blk_ne_blk hgb2 M1.out.blk (by decide) e
                  · exact own_blk_ne M1.out.own hgb2 (by decide) _ e rfl)
                have hb5 : Below w.heap.size w w5 := m3.trans (hch5.below (Nat.le_trans hBw m4) (fun b hb => by
                  rcases hb with rfl | hb
                  · exact Nat.le_trans hBw hT1.ids.2.2.1
                  · exact Nat.le_trans hBw (own_lt M1.out.own hb).1))
                have hB5 := HB1.out.below hb5
                obtain ⟨r0, r1, r2, r3, r4, r5⟩ := blk6 hO5
                clear q0 q1 q2 q3 q4 q5 hR5 hrow5 hch5 hat5
                go_wp2_with fail
                (with_reducible refine (num_nil w5).mono ?_)
                rintro e w6 ⟨rfl, rfl⟩
                go_wp2_with fail
                (with_reducible refine (kept_any bytes g B1 cb w6 hB5 hgb5 (by omega)).mono ?_)
                rintro e w7 ⟨rfl, hb7⟩
                clear r0 r1 r2 r3 r4 r5
                go_wp2_with fail
                (with_reducible refine (over_any (marked bytes) g (bytes.length + 2) bytes.length (by simp [marked]) (by omega) w7 (hgb5.kept hb7)).mono ?_)
                rintro e w8 ⟨⟨v8, rfl⟩, hg8⟩
                obtain ⟨fl9, ml9, l9, m9, hl9, hP9⟩ := pl_send hTa hb1 hgw hgb HF2.out HR5.out hb7 hg8 hr1
                have hP10 := Lib.hid hP9
                clear HF2 HR5 hP9 hg8 hgb hgb2 hgb5
                go_wp2_with fail
                go_meet
                exact ⟨rfl, last + 1, fl9, ml9, _, _, _, hP10.out, by omega, by omega⟩
              · (with_reducible refine (send_no _ src dst ctl _ w1 hN).mono ?_)
                rintro e w2 ⟨rfl, rfl⟩
                go_wp2_with fail
                (with_reducible refine (rsend_no _ src dst ctl _ w2 hN).mono ?_)
                rintro e w5 ⟨rfl, rfl⟩
                go_wp2_with fail
                (with_reducible refine (num_er 12 (by decide) w5).mono ?_)
                rintro e w6 ⟨rfl, rfl⟩
                have hB5 := HB1.out.below hT1.bel
                go_wp2_with fail
                (with_reducible refine (kept_any bytes g B1 cb w6 hB5 hgb (by omega)).mono ?_)
                rintro e w7 ⟨rfl, hb7⟩
                clear p0 p1 p2 p3 p4 p5
                go_wp2_with fail
                (with_reducible refine (over_any (marked bytes) g (bytes.length + 2) bytes.length (by simp [marked]) (by omega) w7 (hgb.kept hb7)).mono ?_)
                rintro e w8 ⟨⟨v8, rfl⟩, hg8⟩
                have hb8 := below_call hb1 hb7
                have hT11 := Lib.hid (hTa.below (hb8.grown hg8 hb8.size (fun q hq => by injection hq with hq; omega)))
                clear hg8 hb8 hgb
                go_wp2_with fail
                go_meet
                exact ⟨rfl, last, fl, ml, _, _, xs, hT11.out, by omega, by omega⟩
          · have hkf0 : (kd == 0) = false := beq_eq_false_iff_ne.2 hk0
            by_cases hk1 : kd = 1
            · as_aux_lemma =>
                subst hk1
                clear hk0
                go_wp2_with fail
                by_cases h0 : l.length = 0
                · obtain rfl : l = [] := List.eq_nil_of_length_eq_zero h0
                  obtain rfl : l2 = [] := List.eq_nil_of_length_eq_zero (by simpa using hlen2)
                  (with_reducible refine (take_none B B _ fl xs nn wa hTa.fb).mono ?_)
                  rintro e w5 ⟨rfl, hb5⟩
                  have hb6 := below_al hb5 (.cells #[.int .i64 0, .int .i64 0, .int .i64 0, .bool false, .slice none 0 0] 37)
                  have hT6 := hTa.below hb6
                  have hO6 := hO.kept hb6
                  have hX6 : Blk (w5.alloc (.cells #[.int .i64 0, .int .i64 0, .int .i64 0, .bool false, .slice none 0 0] 37)) w5.heap.size 37 [.int .i64 0, .int .i64 0, .int .i64 0, .bool false, .slice none 0 0] := Blk.new w5 _ _
                  obtain ⟨q0, q1, q2, q3, q4, q5⟩ := blk6 hO6
                  clear o0 o1 o2 o3 o4 o5
                  go_wp2_with fail
                  generalize (w5.alloc (.cells #[.int .i64 0, .int .i64 0, .int .i64 0, .bool false, .slice none 0 0] 37)) = w6 at *
                  generalize hg6 : w5.heap.size = g6 at *
                  (with_reducible refine (rtake_none B gm _ ml xs nn w6 hT6.rb).mono ?_)
                  rintro e w7 ⟨rfl, hb7⟩
                  have hb8 := below_al hb7 (.cells #[.int .i64 0, .int .i64 0, .int .i64 0, .bool false, .slice none 0 0] 37)
                  have hX8 := hX6.kept hb8
                  have hY8 : Blk (w7.alloc (.cells #[.int .i64 0, .int .i64 0, .int .i64 0, .bool false, .slice none 0 0] 37)) w7.heap.size 37 [.int .i64 0, .int .i64 0, .int .i64 0, .bool false, .slice none 0 0] := Blk.new w7 _ _
                  have hb9 := below_call hb6 hb8
                  have hR8 : RB (w7.alloc (.cells #[.int .i64 0, .int .i64 0, .int .i64 0, .bool false, .slice none 0 0] 37)) none [] := fun j u hu => by simp at hu
                  obtain ⟨x0, x1, x2, x3, x4⟩ := blk5l hX8
                  obtain ⟨y0, y1, y2, y3, y4⟩ := blk5l hY8
                  clear q0 q1 q2 q3 q4 q5
                  go_wp2_with fail
                  generalize (w7.alloc (.cells #[.int .i64 0, .int .i64 0, .int .i64 0, .bool false, .slice none 0 0] 37)) = w8 at *
                  generalize hg8 : w7.heap.size = g8 at *
                  (with_reducible refine (rlike_same ⟨0, 0, 0, false⟩ none none 0 0 [] 0 w8 rfl hR8 hR8).mono ?_)
                  rintro e w9 ⟨rfl, hb10⟩
                  have hb11 := below_call hb9 hb10
                  have hX9 := hX8.kept hb10
                  obtain ⟨z0, z1, z2, z3, z4⟩ := blk5l hX9
                  clear x0 x1 x2 x3 x4 y0 y1 y2 y3 y4
                  go_wp2_with fail
                  (with_reducible refine (num_er 6 (by decide) w9).mono ?_)
                  rintro e w10 ⟨rfl, rfl⟩
                  have hT11 := hTa.below hb11
                  clear hb11
                  go_wp2_with fail
                  go_meet
                  exact ⟨rfl, last, fl, ml, _, _, xs, hT11, by simp, by omega⟩
                · have hlp : 0 < l.length := by omega
                  have hpl := pl_lt nn l.length hlp
                  obtain ⟨p, hp⟩ : ∃ p, pl nn l.length = p := ⟨_, rfl⟩
                  rw [hp] at hpl
                  have hp2 : pl nn l2.length = p := by rw [hlen2]; exact hp
                  obtain ⟨⟨h, v⟩, hv⟩ : ∃ hv, l[p]? = some hv := ⟨_, List.getElem?_eq_getElem hpl⟩
                  obtain ⟨x, hx⟩ : ∃ x, xs[p]? = some x := ⟨_, List.getElem?_eq_getElem (by omega)⟩
                  have hxl := hTa.xl x (List.mem_of_getElem? hx)
                  obtain ⟨Av, kv, cv, hvv⟩ := hTa.fb.slices (h, v) (List.mem_of_getElem? hv)
                  simp only at hvv
                  subst hvv
                  have hro := hTa.fb.rows.own p (.slice Av kv cv) x (by rw [List.getElem?_map, hv]; rfl) hx
                  obtain ⟨A0, c0', e0, -, -, -⟩ := own_form hro
                  injection e0 with e1 e2 e3
                  subst e2
                  clear hro e1 e3
                  obtain ⟨Ar, cr, hv2, hcr, hror⟩ := hTa.at_ hv hx
                  obtain ⟨hid0, hsrc0, hdst0, hctl0⟩ := h
                  (with_reducible refine (take_some B B (last : Int) fl l xs nn p ⟨hid0, hsrc0, hdst0, hctl0⟩ Av x.length cv x wa hTa.fb hBa2 hlp (by omega) hp hv hx (by omega)).mono ?_)
                  rintro e w5 ⟨A5, c5, rfl, hc5, htq⟩
                  have HTQ := Lib.hid htq
                  obtain ⟨fl5, hF5, hrow5, hch5, hat5⟩ := htq
                  obtain ⟨m1, m2, m3, m4⟩ := pl_mid hTa hch5 (.inl hat5)
                  have hO5 := hch5.blk hO (fun e => by
                    rcases e with e | e
                    · exact blk_ne_blk hO hTa.fb.blk (by decide) e
                    · exact own_blk_ne hTa.fb.own hO (by decide) _ e rfl)
                  have hror5 := hch5.row hror (fun b hb e => by
                    rcases e with e | e
                    · exact own_blk_ne hror hTa.fb.blk (by decide) b hb e
                    · exact own_not_types hror hTa.fb.own (by decide) b hb e)
                  have hb56 : Below w5.heap.size w5 (w5.alloc (.cells #[.int .i64 hid0, .int .i64 hsrc0, .int .i64 hdst0, .bool hctl0, .slice A5 x.length c5] 37)) := (Below.refl _ w5).alloc (Nat.le_refl _) _
                  have hX6 : Blk (w5.alloc (.cells #[.int .i64 hid0, .int .i64 hsrc0, .int .i64 hdst0, .bool hctl0, .slice A5 x.length c5] 37)) w5.heap.size 37 [.int .i64 hid0, .int .i64 hsrc0, .int .i64 hdst0, .bool hctl0, .slice A5 x.length c5] := Blk.new w5 _ _
                  have hO6 := hO5.kept hb56
                  have hrow6 := own_below hrow5 hb56
                  have hror6 := own_below hror5 hb56
                  have hM6 := m1.below hb56
                  have hgml := m1.blk.lt
                  have m46 := hb56.size
                  obtain ⟨q0, q1, q2, q3, q4, q5⟩ := blk6 hO6
                  clear o0 o1 o2 o3 o4 o5 hF5 hrow5 hror5 hch5 hat5
                  go_wp2_with fail
                  generalize (w5.alloc (.cells #[.int .i64 hid0, .int .i64 hsrc0, .int .i64 hdst0, .bool hctl0, .slice A5 x.length c5] 37)) = w6 at *
                  generalize hg6 : w5.heap.size = g6 at *
                  (with_reducible refine (rtake_some B gm (last : Int) ml l2 xs nn p ⟨hid0, hsrc0, hdst0, hctl0⟩ Ar x.length cr w6 hM6 (by omega) (by omega) (by omega) hp2 hv2).mono ?_)
                  rintro e w7 ⟨rfl, hrt⟩
                  have HRT := Lib.hid hrt
                  obtain ⟨ml7, hR7, hch7, hn7⟩ := hrt
                  have hX7 := hch7.blk hX6 (fun e => by omega)
                  have hrow7 := hch7.row hrow6 (fun b hb e => own_blk_ne hrow6 hM6.blk (by decide) b hb e)
                  have hror7 := hch7.row hror6 (fun b hb e => own_blk_ne hror6 hM6.blk (by decide) b hb e)
                  have hb78 : Below w7.heap.size w7 (w7.alloc (.cells #[.int .i64 hid0, .int .i64 hsrc0, .int .i64 hdst0, .bool hctl0, .slice Ar x.length cr] 37)) := (Below.refl _ w7).alloc (Nat.le_refl _) _
                  have hX8 := hX7.kept hb78
                  have hY8 : Blk (w7.alloc (.cells #[.int .i64 hid0, .int .i64 hsrc0, .int .i64 hdst0, .bool hctl0, .slice Ar x.length cr] 37)) w7.heap.size 37 [.int .i64 hid0, .int .i64 hsrc0, .int .i64 hdst0, .bool hctl0, .slice Ar x.length cr] := Blk.new w7 _ _
                  have hR8 : RB (w7.alloc (.cells #[.int .i64 hid0, .int .i64 hsrc0, .int .i64 hdst0, .bool hctl0, .slice Ar x.length cr] 37)) A5 x := RC.of_ownS (own_below hrow7 hb78)
                  have hR9 : RB (w7.alloc (.cells #[.int .i64 hid0, .int .i64 hsrc0, .int .i64 hdst0, .bool hctl0, .slice Ar x.length cr] 37)) Ar x := RC.of_ownS (own_below hror7 hb78)
                  obtain ⟨x0, x1, x2, x3, x4⟩ := blk5l hX8
                  obtain ⟨y0, y1, y2, y3, y4⟩ := blk5l hY8
                  clear q0 q1 q2 q3 q4 q5 hR7 hch7 hn7 hrow7 hror7 hrow6 hror6
                  go_wp2_with fail
                  generalize (w7.alloc (.cells #[.int .i64 hid0, .int .i64 hsrc0, .int .i64 hdst0, .bool hctl0, .slice Ar x.length cr] 37)) = w8 at *
                  generalize hg8 : w7.heap.size = g8 at *
                  (with_reducible refine (rlike_same ⟨hid0, hsrc0, hdst0, hctl0⟩ A5 Ar c5 cr x x.length w8 rfl hR8 hR9).mono ?_)
                  rintro e w9 ⟨rfl, hb10⟩
                  have hb79 : Below w7.heap.size w7 w9 := by rw [hg8]; exact hb78.trans (hb10.mono (by have := hb78.size; omega))
                  clear x0 x1 x2 x3 x4 y0 y1 y2 y3 y4
                  go_wp2_with fail
                  (with_reducible refine (num_nil w9).mono ?_)
                  rintro e w10 ⟨rfl, rfl⟩
                  obtain ⟨fl9, ml9, l9, m9, hl9, hP9⟩ := pl_take hTa hpl HTQ.out (by rw [hg6]; exact hb56) HRT.out
                  have hP10 := Lib.hid (hP9.below hb79)
                  clear HTQ HRT hP9 hb79
                  go_wp2_with fail
                  go_meet
                  exact ⟨rfl, last, fl9, ml9, _, _, _, hP10.out, by omega, by omega⟩
            · have hkf1 : (kd == 1) = false := beq_eq_false_iff_ne.2 hk1
              by_cases hk2 : kd = 2
              · as_aux_lemma =>
                  subst hk2
                  clear hk0 hk1
                  go_wp2_with fail
                  by_cases h0 : l.length = 0
                  · obtain rfl : l = [] := List.eq_nil_of_length_eq_zero h0
                    obtain rfl : l2 = [] := List.eq_nil_of_length_eq_zero (by simpa using hlen2)
                    (with_reducible refine (copy_none B B _ fl xs nn wa hTa.fb).mono ?_)
                    rintro e w5 ⟨rfl, hb5⟩
                    have hT5 := hTa.below hb5
                    have hO5 := hO.kept hb5
                    obtain ⟨q0, q1, q2, q3, q4, q5⟩ := blk6 hO5
                    clear o0 o1 o2 o3 o4 o5
                    go_wp2_with fail
                    (with_reducible refine (rcopy_none B gm _ ml xs nn w5 hT5.rb).mono ?_)
                    rintro e w7 ⟨rfl, hb7⟩
                    clear q0 q1 q2 q3 q4 q5
                    go_wp2_with fail
                    (with_reducible refine (num_er 6 (by decide) w7).mono ?_)
                    rintro e w10 ⟨rfl, rfl⟩
                    have hT11 := hTa.below (below_call hb5 hb7)
                    go_wp2_with fail
                    go_meet
                    exact ⟨rfl, last, fl, ml, _, _, xs, hT11, by simp, by omega⟩
                  · have hlp : 0 < l.length := by omega
                    have hpl := pl_lt nn l.length hlp
                    obtain ⟨p, hp⟩ : ∃ p, pl nn l.length = p := ⟨_, rfl⟩
                    rw [hp] at hpl
                    have hp2 : pl nn l2.length = p := by rw [hlen2]; exact hp
                    obtain ⟨⟨h, v⟩, hv⟩ : ∃ hv, l[p]? = some hv := ⟨_, List.getElem?_eq_getElem hpl⟩
                    obtain ⟨x, hx⟩ : ∃ x, xs[p]? = some x := ⟨_, List.getElem?_eq_getElem (by omega)⟩
                    have hxl := hTa.xl x (List.mem_of_getElem? hx)
                    obtain ⟨Av, kv, cv, hvv⟩ := hTa.fb.slices (h, v) (List.mem_of_getElem? hv)
                    simp only at hvv
                    subst hvv
                    have hro := hTa.fb.rows.own p (.slice Av kv cv) x (by rw [List.getElem?_map, hv]; rfl) hx
                    obtain ⟨A0, c0', e0, -, -, -⟩ := own_form hro
                    injection e0 with e1 e2 e3
                    subst e2
                    clear hro e1 e3
                    obtain ⟨Ar, cr, hv2, hcr, hror⟩ := hTa.at_ hv hx
                    obtain ⟨hid0, hsrc0, hdst0, hctl0⟩ := h
                    (with_reducible refine (copy_some B B (last : Int) fl l xs nn p ⟨hid0, hsrc0, hdst0, hctl0⟩ Av x.length cv x wa hTa.fb hBa2 hlp (by omega) (by omega) hp hv hx rfl (by omega)).mono ?_)
                    rintro e w5 ⟨rfl, w0, hs0, hb0, hpq⟩
                    have HPQ := Lib.hid hpq
                    obtain ⟨gb, A5, c5, hc5, fl5, hF5, hrow5, hch5, hat5, -⟩ := hpq
                    have hT0 := hTa.below hb0
                    obtain ⟨m1, m2, m3, m4⟩ := pl_mid hT0 hch5 hat5
                    have hO0 := hO.kept hb0
                    have hO5 := hch5.blk hO0 (fun e => by
                      rcases e with e | e
                      · exact blk_ne_blk hO0 hT0.fb.blk (by decide) e
                      · exact own_blk_ne hT0.fb.own hO0 (by decide) _ e rfl)
                    obtain ⟨q0, q1, q2, q3, q4, q5⟩ := blk6 hO5
                    clear o0 o1 o2 o3 o4 o5 hF5 hrow5 hch5 hat5
                    go_wp2_with fail
                    (with_reducible refine (rcopy_some B gm (last : Int) ml l2 xs nn p ⟨hid0, hsrc0, hdst0, hctl0⟩ Ar x.length cr x w5 m1 m4 (by omega) (by omega) (by omega) hp2 hv2 hx rfl (by omega)).mono ?_)
                    rintro e w7 ⟨rfl, w00, hs00, hb00, hrp⟩
                    obtain ⟨fl9, ml9, l9, m9, hl9, hP9⟩ := pl_copy hTa hb0 HPQ.out hb00 hrp hxl
                    have hP10 := Lib.hid hP9
                    clear HPQ hrp hP9 q0 q1 q2 q3 q4 q5
                    go_wp2_with fail
                    (with_reducible refine (num_nil w7).mono ?_)
                    rintro e w10 ⟨rfl, rfl⟩
                    go_wp2_with fail
                    go_meet
                    exact ⟨rfl, last + 1, fl9, ml9, _, _, _, hP10.out, by omega, by omega⟩
              · have hkf2 : (kd == 2) = false := beq_eq_false_iff_ne.2 hk2
                by_cases hk3 : kd = 3
                · as_aux_lemma =>
                    subst hk3
                    clear hk0 hk1 hk2
                    go_wp2_with fail
                    by_cases h0 : l.length = 0
                    · obtain rfl : l = [] := List.eq_nil_of_length_eq_zero h0
                      obtain rfl : l2 = [] := List.eq_nil_of_length_eq_zero (by simpa using hlen2)
                      (with_reducible refine (nth_none B B _ fl xs nn wa hTa.fb).mono ?_)
                      rintro e w5 ⟨rfl, hb5⟩
                      have hb6 := below_al hb5 (.cells #[.int .i64 0, .int .i64 0, .int .i64 0, .bool false, .slice none 0 0] 37)
                      have hT6 := hTa.below hb6
                      have hO6 := hO.kept hb6
                      have hX6 : Blk (w5.alloc (.cells #[.int .i64 0, .int .i64 0, .int .i64 0, .bool false, .slice none 0 0] 37)) w5.heap.size 37 [.int .i64 0, .int .i64 0, .int .i64 0, .bool false, .slice none 0 0] := Blk.new w5 _ _
                      obtain ⟨q0, q1, q2, q3, q4, q5⟩ := blk6 hO6
                      clear o0 o1 o2 o3 o4 o5
                      go_wp2_with fail
                      generalize (w5.alloc (.cells #[.int .i64 0, .int .i64 0, .int .i64 0, .bool false, .slice none 0 0] 37)) = w6 at *
                      generalize hg6 : w5.heap.size = g6 at *
                      (with_reducible refine (rnth_none B gm _ ml xs nn w6 hT6.rb).mono ?_)
                      rintro e w7 ⟨rfl, hb7⟩
                      have hb8 := below_al hb7 (.cells #[.int .i64 0, .int .i64 0, .int .i64 0, .bool false, .slice none 0 0] 37)
                      have hX8 := hX6.kept hb8
                      have hY8 : Blk (w7.alloc (.cells #[.int .i64 0, .int .i64 0, .int .i64 0, .bool false, .slice none 0 0] 37)) w7.heap.size 37 [.int .i64 0, .int .i64 0, .int .i64 0, .bool false, .slice none 0 0] := Blk.new w7 _ _
                      have hb9 := below_call hb6 hb8
                      have hR8 : RB (w7.alloc (.cells #[.int .i64 0, .int .i64 0, .int .i64 0, .bool false, .slice none 0 0] 37)) none [] := fun j u hu => by simp at hu
                      obtain ⟨x0, x1, x2, x3, x4⟩ := blk5l hX8
                      obtain ⟨y0, y1, y2, y3, y4⟩ := blk5l hY8
                      clear q0 q1 q2 q3 q4 q5
                      go_wp2_with fail
                      generalize (w7.alloc (.cells #[.int .i64 0, .int .i64 0, .int .i64 0, .bool false, .slice none 0 0] 37)) = w8 at *
                      generalize hg8 : w7.heap.size = g8 at *
                      (with_reducible refine (rlike_same ⟨0, 0, 0, false⟩ none none 0 0 [] 0 w8 rfl hR8 hR8).mono ?_)
                      rintro e w9 ⟨rfl, hb10⟩
                      have hb11 := below_call hb9 hb10
                      have hX9 := hX8.kept hb10
                      obtain ⟨z0, z1, z2, z3, z4⟩ := blk5l hX9
                      clear x0 x1 x2 x3 x4 y0 y1 y2 y3 y4
                      go_wp2_with fail
                      (with_reducible refine (num_er 6 (by decide) w9).mono ?_)
                      rintro e w10 ⟨rfl, rfl⟩
                      go_wp2_with fail
                      (with_reducible refine (over_own [] w10.heap.size none 0 0 w10 (by omega) (World.ownsRow_nil _ _ _ _)).mono ?_)
                      rintro e w11 ⟨⟨v11, rfl⟩, hg11⟩
                      have hT11 := hTa.below (hb11.grown hg11 hb11.size (fun q hq => by cases hq))
                      clear hg11 hb11
                      go_wp2_with fail
                      go_meet
                      exact ⟨rfl, last, fl, ml, _, _, xs, hT11, by simp, by omega⟩
                    · have hlp : 0 < l.length := by omega
                      have hpl := pl_lt nn l.length hlp
                      obtain ⟨p, hp⟩ : ∃ p, pl nn l.length = p := ⟨_, rfl⟩
                      rw [hp] at hpl
                      have hp2 : pl nn l2.length = p := by rw [hlen2]; exact hp
                      obtain ⟨⟨h, v⟩, hv⟩ : ∃ hv, l[p]? = some hv := ⟨_, List.getElem?_eq_getElem hpl⟩
                      obtain ⟨x, hx⟩ : ∃ x, xs[p]? = some x := ⟨_, List.getElem?_eq_getElem (by omega)⟩
                      have hxl := hTa.xl x (List.mem_of_getElem? hx)
                      obtain ⟨Av, kv, cv, hvv⟩ := hTa.fb.slices (h, v) (List.mem_of_getElem? hv)
                      simp only at hvv
                      subst hvv
                      have hro := hTa.fb.rows.own p (.slice Av kv cv) x (by rw [List.getElem?_map, hv]; rfl) hx
                      obtain ⟨A0, c0', e0, -, -, -⟩ := own_form hro
                      injection e0 with e1 e2 e3
                      subst e2
                      clear hro e1 e3
                      obtain ⟨Ar, cr, hv2, hcr, hror⟩ := hTa.at_ hv hx
                      obtain ⟨hid0, hsrc0, hdst0, hctl0⟩ := h
                      (with_reducible refine (nth_some B B (last : Int) fl l xs nn p ⟨hid0, hsrc0, hdst0, hctl0⟩ Av x.length cv x wa hTa.fb hlp (by omega) hp hv hx (by omega)).mono ?_)
                      rintro e w5 ⟨A5, c5, rfl, hc5, hrow5, hb5⟩
                      have hb6 := below_al hb5 (.cells #[.int .i64 hid0, .int .i64 hsrc0, .int .i64 hdst0, .bool hctl0, .slice A5 x.length c5] 37)
                      have hX6 : Blk (w5.alloc (.cells #[.int .i64 hid0, .int .i64 hsrc0, .int .i64 hdst0, .bool hctl0, .slice A5 x.length c5] 37)) w5.heap.size 37 [.int .i64 hid0, .int .i64 hsrc0, .int .i64 hdst0, .bool hctl0, .slice A5 x.length c5] := Blk.new w5 _ _
                      have hT6 := hTa.below hb6
                      have hO6 := hO.kept hb6
                      have hrow6 := hrow5.alloc (.cells #[.int .i64 hid0, .int .i64 hsrc0, .int .i64 hdst0, .bool hctl0, .slice A5 x.length c5] 37)
                      have hror6 := own_below hror hb6
                      obtain ⟨q0, q1, q2, q3, q4, q5⟩ := blk6 hO6
                      clear o0 o1 o2 o3 o4 o5 hrow5
                      go_wp2_with fail
                      generalize (w5.alloc (.cells #[.int .i64 hid0, .int .i64 hsrc0, .int .i64 hdst0, .bool hctl0, .slice A5 x.length c5] 37)) = w6 at *
                      generalize hg6 : w5.heap.size = g6 at *
                      (with_reducible refine (rnth_some B gm (last : Int) ml l2 xs nn p ⟨hid0, hsrc0, hdst0, hctl0⟩ Ar x.length cr w6 hT6.rb (by omega) (by omega) hp2 hv2).mono ?_)
                      rintro e w7 ⟨rfl, hb7⟩
                      have hb8 := below_al hb7 (.cells #[.int .i64 hid0, .int .i64 hsrc0, .int .i64 hdst0, .bool hctl0, .slice Ar x.length cr] 37)
                      have hX8 := hX6.kept hb8
                      have hY8 : Blk (w7.alloc (.cells #[.int .i64 hid0, .int .i64 hsrc0, .int .i64 hdst0, .bool hctl0, .slice Ar x.length cr] 37)) w7.heap.size 37 [.int .i64 hid0, .int .i64 hsrc0, .int .i64 hdst0, .bool hctl0, .slice Ar x.length cr] := Blk.new w7 _ _
                      have hrow8 := own_below hrow6 hb8
                      have hR8 : RB (w7.alloc (.cells #[.int .i64 hid0, .int .i64 hsrc0, .int .i64 hdst0, .bool hctl0, .slice Ar x.length cr] 37)) A5 x := RC.of_ownS hrow8
                      have hR9 : RB (w7.alloc (.cells #[.int .i64 hid0, .int .i64 hsrc0, .int .i64 hdst0, .bool hctl0, .slice Ar x.length cr] 37)) Ar x := RC.of_ownS (own_below hror6 hb8)
                      have hb9 := below_call hb6 hb8
                      obtain ⟨x0, x1, x2, x3, x4⟩ := blk5l hX8
                      obtain ⟨y0, y1, y2, y3, y4⟩ := blk5l hY8
                      clear q0 q1 q2 q3 q4 q5 hrow6 hror6
                      go_wp2_with fail
                      generalize (w7.alloc (.cells #[.int .i64 hid0, .int .i64 hsrc0, .int .i64 hdst0, .bool hctl0, .slice Ar x.length cr] 37)) = w8 at *
                      generalize hg8 : w7.heap.size = g8 at *
                      (with_reducible refine (rlike_same ⟨hid0, hsrc0, hdst0, hctl0⟩ A5 Ar c5 cr x x.length w8 rfl hR8 hR9).mono ?_)
                      rintro e w9 ⟨rfl, hb10⟩
                      have hb11 := below_call hb9 hb10
                      have hX9 := hX8.kept hb10
                      have hrow9 := own_below hrow8 hb10
                      obtain ⟨z0, z1, z2, z3, z4⟩ := blk5l hX9
                      clear x0 x1 x2 x3 x4 y0 y1 y2 y3 y4 hrow8
                      go_wp2_with fail
                      (with_reducible refine (num_nil w9).mono ?_)
                      rintro e w10 ⟨rfl, rfl⟩
                      go_wp2_with fail
                      (with_reducible refine (over_own x wa.heap.size A5 x.length c5 w10 (by omega) hrow9).mono ?_)
                      rintro e w11 ⟨⟨v11, rfl⟩, hg11⟩
                      have hT11 := Lib.hid (hTa.below (hb11.grown hg11 hb11.size (fun q hq => (own_lt hrow9 hq).1)))
                      clear hg11 hb11 hrow9
                      go_wp2_with fail
                      go_meet
                      exact ⟨rfl, last, fl, ml, _, _, xs, hT11.out, by omega, by omega⟩
                · as_aux_lemma =>
                    have hkf3 : (kd == 3) = false := beq_eq_false_iff_ne.2 hk3
                    clear hk0 hk1 hk2 hk3
                    obtain ⟨ids, hids⟩ : ∃ ids, btw l src dst = ids := ⟨_, rfl⟩
                    have hids2 : btw l2 src dst = ids := by rw [btw_heads l l2 src dst hTa.hd, hids]
                    have hil : ids.length ≤ 4000000 := by have := btw_le l src dst; rw [hids] at this; omega
                    have HI := Lib.hid hids
                    have HI2 := Lib.hid hids2
                    have hcur : Below wa.heap.size wa wa.drew := Below.drew (Below.refl _ _)
                    clear hids hids2
                    go_wp2_with fail
                    go_region_held3 (fun w' => w'.cell? ⟨go_, 1, none⟩ = some (.int .i64 src) ∧ w'.cell? ⟨go_, 2, none⟩ = some (.int .i64 dst))
                      (with_reducible exact ⟨cell_keep hcur o1, cell_keep hcur o2⟩)
                      (first
                        | (go_at_call 20; (with_reducible refine (between_ids B B (last : Int) fl l xs src dst ids _ (hTa.fb.below hcur) (by omega) HI.out).mono ?_); rintro e w9 ⟨⟨A9, c9, rfl, hi9⟩, hb9⟩; replace hcur := below_call hcur hb9; (try replace hi8 := RC.below hi8 hb9))
                        | (go_at_call 31; (with_reducible refine (rbetween_ids B gm (last : Int) ml l2 xs src dst ids _ (hTa.rb.below hcur) (by omega) HI2.out).mono ?_); rintro e w8 ⟨⟨A8, c8, rfl, hi8⟩, hb8⟩; replace hcur := below_call hcur hb8; (try replace hi9 := RC.below hi9 hb8))
                        | (go_at_call 30; (with_reducible refine (ints_same ids A9 A8 c9 c8 _ hi9 hi8 hil).mono ?_); rintro e w7 ⟨rfl, hb7⟩; replace hcur := below_call hcur hb7))
                    all_goals
                      have hT9 := Lib.hid (hTa.below hcur)
                      clear hcur
                      go_wp2_with fail
                      go_meet
                      exact ⟨rfl, last, fl, ml, _, _, xs, hT9.out, by omega, by omega⟩
        case rest =>
          as_aux_lemma =>
            obtain ⟨wQ, rfl⟩ : ∃ x, x = wc := ⟨_, rfl⟩
            obtain ⟨rfl, hP⟩ := hcut
            obtain ⟨last9, fl9, ml9, l9, m9, xs9, hP9, hl9, hla9⟩ := hP.out
            obtain ⟨lenm, lenx⟩ := hP9.len
            obtain ⟨Am, cm, rfl, -, -, -⟩ := own_formS hP9.rb.own
            have hdd := hP9.hd
            have hxl9 : ∀ x ∈ xs9, x.length ≤ 4000000 := fun x hx => Nat.le_trans (hP9.xl x hx) (by omega)
            have HP := Lib.hid hP9
            have h9 : l9.length ≤ 4096 := by omega
            clear hP hTa HTK hO hBa hbwa hr1 hcb
            go_wp2_with fail
            (with_reducible refine (waiting_any B B (last9 : Int) fl9 l9 xs9 wQ HP.out.fb h9 hxl9).mono ?_)
            rintro e w1 ⟨⟨AW, cW, rfl, hW⟩, hb1⟩
            obtain ⟨lw, hlw, hmw, how, hrw, hdw⟩ := hW
            rw [List.take_length] at hmw
            rw [show xs9.take l9.length = xs9 by rw [← lenx, List.take_length]] at hrw
            have HLW : Hid (Lts w1 AW l9.length (l9.map (·.1)) xs9) := Lts.of how hlw hmw hrw
            have hR1 := HP.out.rb.below hb1
            have hRo := hR1.own
            have c0 := hR1.blk.cell 0
            simp only [List.getElem?_cons_zero] at c0
            rw [lenm] at hRo c0
            have HLM : Hid (Lts w1 Am l9.length (l9.map (·.1)) xs9) := Lts.of hRo lenm hdd hR1.rows
            have HF1 := Lib.hid (HP.out.fb.below hb1)
            have HOW := Lib.hid how
            have HRW := Lib.hid hrw
            have HDW := Lib.hid hdw
            have HLWL := Lib.hid hlw
            have hcur : Below w1.heap.size w1 w1.drew := Below.drew (Below.refl _ _)
            have hb1' := Lib.hid hb1
            clear hRo hR1 how hrw hdw hmw hdd hlw hb1 lenm hxl9
            go_wp2_with fail
            go_cut [202] (fun v wx => v = .bool false ∧ Hid (Below w1.heap.size w1 wx))
            case first =>
              go_region_held3 (fun w' => w'.cell? ⟨gm, 0, none⟩ = some (.slice Am l9.length cm))
                (with_reducible exact cell_keep hcur c0)
                (first
                  | (go_at_call 16; (with_reducible refine (flen_any B B (last9 : Int) fl9 l9 xs9 _ (HF1.out.below hcur)).mono ?_); rintro e w5 ⟨rfl, rfl⟩)
                  | (go_at_call 32; (with_reducible refine (rsame_any AW Am l9.length cW cm (l9.map (·.1)) xs9 _ (HLW.out.below hcur) (HLM.out.below hcur) h9).mono ?_); rintro e w6 ⟨rfl, hb6⟩; replace hcur := below_call hcur hb6))
              all_goals
                have hc9 := Lib.hid hcur
                clear hcur
                go_wp2_with fail
                go_meet
                exact ⟨rfl, hc9.out⟩
            case rest =>
              obtain ⟨rfl, hcut⟩ := hcut
              have ho2 := own_below HOW.out hcut.out
              have hr2 := HRW.out.below hcut.out
              have hbc := below_call hb1'.out hcut.out
              clear hcut hcur c0
              have HT0 : Hid (PlI w wc B gm (k + 1)) := ⟨last9, fl9, _, l9, m9, xs9, HP.out.below hbc, hl9, hla9⟩
              have hws := hbc.size
              go_wp2_with fail
              go_loopw [205] (fun i wx => ∃ j : Nat, j ≤ l9.length ∧ i = .int .i64 (j : Int) ∧ Hid (wx.ownsRow wQ.heap.size 37 5 (.slice AW l9.length cW) l9.length (lcs lw)) ∧ Hid (Ows wx wQ.heap.size ((lw.map (·.2)).drop j) (xs9.drop j)) ∧ Below wQ.heap.size wQ wx) (fun i _ => l9.length - (intOf i).toNat)
              case atStart => exact ⟨0, by omega, rfl, ho2, by rw [List.drop_zero, List.drop_zero]; exact hr2, hbc⟩
              case round =>
                obtain ⟨j, hj, rfl, HO, HR, hbx⟩ := hrel
                by_cases hjl : j < l9.length
                · have hjw : j < lw.length := by rw [HLWL.out]; exact hjl
                  have hjx : j < xs9.length := by omega
                  obtain ⟨g0, c0, e0, -, hc0⟩ := own_atS HO.out (by omega)
                  injection e0 with e1 e2 e3
                  subst e1 e3
                  have hov := HR.out.own 0 lw[j].2 xs9[j] (by rw [List.getElem?_drop, Nat.add_zero, List.getElem?_map, List.getElem?_eq_getElem hjw]; rfl) (by rw [List.getElem?_drop, Nat.add_zero, List.getElem?_eq_getElem hjx])
                  obtain ⟨Av, cv, hvv, -, -, -⟩ := own_form hov
                  have x4 : wr.cell? ⟨g0, j * 5 + 4, none⟩ = (ltc lw[j].1 lw[j].2)[4]? := by rw [HO.out.cellAt (j * 5 + 4) (by omega), lcs_get lw j 4 hjw (by omega)]
                  simp only [ltc, List.getElem?_cons_zero, List.getElem?_cons_succ] at x4
                  have HV : Hid (lw[j].2 = .slice Av xs9[j].length cv) := hvv
                  rw [hvv] at hov x4
                  have hxj := HP.out.xl xs9[j] (List.getElem_mem hjx)
                  obtain ⟨nx, hnx⟩ : ∃ nx, xs9[j].length = nx := ⟨_, rfl⟩
                  rw [hnx] at hov x4 hxj HV
                  have HOV := Lib.hid hov
                  clear hvv hov hnx
                  go_wp2_with fail
                  (with_reducible refine (over_own xs9[j] wQ.heap.size Av nx cv wr (by omega) HOV.out).mono ?_)
                  rintro e w7 ⟨⟨v7, rfl⟩, hg7⟩
                  have hbx7 := hbx.grown hg7 hbx.size (fun q hq => (own_lt HOV.out hq).1)
                  have HO7 := Lib.hid ((Chg.of hg7 (S := fun b => (Value.slice Av nx cv).ownBlock = some b) (fun b hb => hb)).row HO.out (fun b hb e => own_not_types HO.out HOV.out (by decide) b hb e))
                  have HR7 := Lib.hid (ows_step HR.out HDW.out (by rw [List.length_map]; exact hjw) (by rw [List.getElem_map, HV.out]; exact hg7))
                  clear hg7 x4
                  go_wp2_with fail
                  go_roundw
                  case rel => exact ⟨j + 1, by omega, by go_num, HO7, HR7, hbx7⟩
                  case measure => simp [intOf]; omega
                · obtain rfl : j = l9.length := by omega
                  have HT1 : Hid (PlI w wr B gm (k + 1)) := ⟨last9, fl9, _, l9, m9, xs9, HP.out.below hbx, hl9, hla9⟩
                  go_wp2_with fail
                  go_roundw
                  case rel => exact ⟨k + 1, by omega, by go_num, HT1.out⟩
                  case measure => simp [intOf]; omega
      · obtain rfl : k = ops.length := by omega
        have hbel := hTk.bel
        go_wp2_with fail
        go_ret
        exact ⟨rfl, hbel⟩
end Go.Proofs.Ytikichifdkgobaa
