/- The walk of FabricEmpties. -/
import Derived.Test.YtikichifdkgobaaFabBtw
import Derived.Test.YtikichifdkgobaaFabFull
import Derived.Test.YtikichifdkgobaaRowsSum
namespace Go.Proofs.Ytikichifdkgobaa
set_option linter.unusedVariables false
set_option linter.unusedSimpArgs false
open Go.RowKit

theorem nil_er_eql (a : Int) (w : World) : (binOp .eql 33 .nilIface (.iface 42 (.int .i64 a))).run Try.prog w = .ok (.bool false) w := by
  first | kernel_rfl | (go_simp; done) | (simp [binOp, Op.equal, Op.maxDepth, Op.equalIn]; done)
/-- The fabric after k sends. -/
def EmpS (w wr : World) (B k : Nat) (a b : Int) (ps : List (List UInt8)) : Prop := ∃ fl l, Fb wr B B (k : Int) fl l (ps.take k) ∧ l.length = k ∧ (∀ (j : Nat) v, l[j]? = some v → v.1 = ⟨(j : Int) + 1, a, b, true⟩) ∧ Below w.heap.size w wr
/-- The fabric after i takes. -/
def EmpT (w wr : World) (B i : Nat) (a b : Int) (ps : List (List UInt8)) : Prop := ∃ fl l, Fb wr B B (ps.length : Int) fl l (ps.drop i) ∧ l.length = ps.length - i ∧ (∀ (j : Nat) v, l[j]? = some v → v.1 = ⟨(i : Int) + (j : Int) + 1, a, b, true⟩) ∧ Below w.heap.size w wr
set_option maxRecDepth 100000 in
set_option maxHeartbeats 3200000 in
theorem FabricEmpties_walk (ps : List (List UInt8)) (A : Option Addr) (c : Nat) (a b : Int) (w : World) (hc : ps.length ≤ c) (hA : RP w A ps) (ht : total ps ≤ 1048576 ∧ ps.length ≤ 1048576) (_ua : (Lit.int .i64 a).wf = true) (_ub : (Lit.int .i64 b).wf = true) :
    Calls Try.prog 5 #[.slice A ps.length c, .int .i64 a, .int .i64 b] w fun e w' => e = .returned (.bool true) ∧ Below w.heap.size w w' := by
  obtain ⟨ht, hl⟩ := ht
  go_enter Try.func5, Try.ntmps5
  go_wp2_with fail
  (with_reducible refine (alive_any _).mono ?_)
  rintro e w1 ⟨rfl, hb1⟩
  have hA1 := hA.below hb1
  by_cases h500 : 500 < ps.length
  · go_wp2_with fail
    go_ret
    exact ⟨rfl, hb1⟩
  have f500 : decide ((500 : Int) < (ps.length : Int)) = false := by simp; omega
  go_wp2_with fail
  (with_reducible refine (sum_rows ps A c w1 hA1 ht (by omega)).mono ?_)
  rintro e w2 ⟨rfl, rfl⟩
  by_cases h4 : 262144 < total ps
  · go_wp2_with fail
    go_ret
    exact ⟨rfl, hb1⟩
  have f4 : decide ((262144 : Int) < (total ps : Int)) = false := by simp; omega
  go_wp2_with fail
  (with_reducible refine (fnew_any w2).mono ?_)
  rintro e w3 ⟨rfl, hF3, hb3⟩
  have hbw3 := below_call hb1 hb3
  have hBw := hb1.size
  generalize hBB : w2.heap.size = B at *
  clear hb3 hA1
  go_wp2_with fail
  go_loopw [8, 29] (fun n i wr => ∃ k : Nat, k ≤ ps.length ∧ (k = 0 ∨ (IsN a ∧ IsN b)) ∧ n = .int .i64 (k : Int) ∧ i = .int .i64 (k : Int) ∧ EmpS w wr B k a b ps) (fun _ i _ => ps.length - (intOf i).toNat)
  case atStart => exact ⟨0, by omega, .inl rfl, rfl, rfl, _, [], hF3, rfl, by simp, hbw3⟩
  case round =>
    obtain ⟨k, hk, hkn, rfl, rfl, fl, l, hF, hlk, hid, hb⟩ := hrel
    by_cases hlt : k < ps.length
    · obtain ⟨ad, B1, cb, rfl, hcell, hcb, hB1⟩ := (hA.below hb).at_ k hlt
      have hxl := total_mem (List.getElem_mem hlt)
      have HT := Lib.hid (take_snoc ps k hlt)
      generalize ps[k] = x at *
      have HID := Lib.hid hid
      have HLK := Lib.hid hlk
      have HKN := Lib.hid hkn
      clear hid hlk hF3 hbw3 hkn
      by_cases hN : IsN a ∧ IsN b
      · have HN := Lib.hid hN
        clear hN
        go_wp2_with fail
        (with_reducible refine (send_i B B (k : Int) ((k : Int) + 1) fl l (ps.take k) a b true x B1 x.length cb wr rfl HN.out.1 HN.out.2 hF (Nat.le_of_lt hF.blk.lt) (by have := HLK.out; omega) (by omega) rfl hB1 hcb (by omega)).mono ?_)
        rintro e w5 ⟨rfl, A5, c5, fl5, hc5, hF5, hch5, hbs5⟩
        have hb5 := hF.chg_below hb hb.size hBw hBw hch5
        clear hcell hB1 hF hch5 hb
        have qn := nil_er_eql 12 w5
        go_wp2_with fail
        go_roundw
        case rel =>
          refine ⟨k + 1, by omega, .inr HN.out, by go_num, by go_num, fl5, _, by rw [HT.out]; simpa using hF5, ?_, ?_, hb5⟩
          · rw [List.length_append, HLK.out]; rfl
          · intro j v hv
            by_cases hj : j < l.length
            · rw [List.getElem?_append_left hj] at hv
              exact HID.out j v hv
            · have hlk := HLK.out
              rw [List.getElem?_append_right (by omega)] at hv
              by_cases hj2 : j = l.length
              · subst hj2
                rw [Nat.sub_self, List.getElem?_cons_zero] at hv
                injection hv with hv
                subst hv
                simp only [hlk]
              · rw [List.getElem?_eq_none (by simp; omega)] at hv
                cases hv
        case measure => simp [intOf]; omega
      · have hk0 : k = 0 := by rcases HKN.out with h | h; exact h; exact absurd h hN
        have HK0 := Lib.hid hk0
        clear hk0
        have q12 := er_eql 12 12 wr
        go_wp2_with fail
        (with_reducible refine (send_no _ a b true _ wr hN).mono ?_)
        rintro e w5 ⟨rfl, rfl⟩
        go_wp2_with fail
        (with_reducible refine (flen_i B B _ fl l _ 0 w5 hF (by have := HLK.out; have := HK0.out; omega)).mono ?_)
        rintro e w6 ⟨rfl, rfl⟩
        go_wp2_with fail
        go_ret
        exact ⟨rfl, hb⟩
    · obtain rfl : k = ps.length := by omega
      have HID := Lib.hid hid
      have HLK := Lib.hid hlk
      have HKN := Lib.hid hkn
      clear hid hlk hF3 hbw3 hkn hlt
      go_wp2_with fail
      (with_reducible refine (between_all B B _ fl l _ a b wr hF (by have := HLK.out; omega) (fun j v hv => by rw [HID.out j v hv]; exact ⟨rfl, rfl⟩)).mono ?_)
      rintro e w5 ⟨⟨A5, c5, rfl⟩, hb5⟩
      have hF5 := hF.below hb5
      have hbw5 := below_call hb hb5
      clear hF
      have hll := HLK.out
      rw [hll]
      rw [List.take_length] at hF5
      have HL0 := Lib.hid hll
      have HID0 := HID
      clear hll HLK HID
      go_wp2_with fail
      go_loopw [13] (fun i wr => ∃ k : Nat, k ≤ ps.length ∧ i = .int .i64 (k : Int) ∧ EmpT w wr B k a b ps) (fun i _ => ps.length - (intOf i).toNat)
      case atStart =>
        refine ⟨0, by omega, rfl, fl, l, by simpa using hF5, by have := HL0.out; omega, ?_, hbw5⟩
        intro j v hv
        rw [HID0.out j v hv]
        simp
      case round =>
        obtain ⟨k, hk, rfl, fl2, l2, hF, hlk, hid, hb6⟩ := hrel
        have HID := Lib.hid hid
        have HLK := Lib.hid hlk
        clear hid hlk hF5 hbw5 HID0 HL0 hb hb5
        by_cases hlt : k < ps.length
        · obtain ⟨ad, B1, cb, rfl, hcell, hcb, hB1⟩ := (hA.below hb6).at_ k hlt
          have hxl := total_mem (List.getElem_mem hlt)
          have HX0 : Hid ((ps.drop k)[0]? = some ps[k]) := by
            show _ = _
            rw [List.getElem?_drop, Nat.add_zero, List.getElem?_eq_getElem hlt]
          have hcb := hcb
          generalize hxx : ps[k] = x at *
          have HXX := Lib.hid hxx
          clear hxx
          have h0 : 0 < l2.length := by have := HLK.out; omega
          obtain ⟨⟨h, v⟩, hv⟩ : ∃ hv, l2[0]? = some hv := ⟨_, List.getElem?_eq_getElem h0⟩
          obtain ⟨Av, kv, cv, hvv⟩ := hF.slices (h, v) (List.mem_of_getElem? hv)
          simp only at hvv
          subst hvv
          have hh : h = ⟨(k : Int) + 1, a, b, true⟩ := by have := HID.out 0 _ hv; simpa using this
          subst hh
          have hro := hF.rows.own 0 (.slice Av kv cv) x (by rw [List.getElem?_map, hv]; rfl) HX0.out
          obtain ⟨A0, c0', e0, -, -, -⟩ := own_form hro
          injection e0 with e1 e2 e3
          subst e2
          clear hro e1 e3
          go_wp2_with fail
          (with_reducible refine (take_some B B _ fl2 l2 (ps.drop k) 0 0 ⟨(k : Int) + 1, a, b, true⟩ Av x.length cv x wr hF (Nat.le_of_lt hF.blk.lt) h0 (by have := HLK.out; omega) (by simp [pl]) hv HX0.out (by omega)).mono ?_)
          rintro e w9 ⟨A9, c9, rfl, hc9, fl9, hF9, ho9, hch9, -⟩
          have hb9 := hF.chg_below hb6 hb6.size hBw hBw hch9
          have hRB9 : RB w9 A9 x := by
            obtain ⟨A', c', e0, -, hR, -⟩ := own_form ho9
            injection e0 with e1 e2 e3
            subst e1
            exact hR
          clear hcell hB1 hcb hch9
          have hb10 := below_al hb9 (.cells #[.int .i64 ((k : Int) + 1), .int .i64 a, .int .i64 b, .bool true, .slice A9 x.length c9] 37)
          have hal9 : Below w9.heap.size w9 (w9.alloc (.cells #[.int .i64 ((k : Int) + 1), .int .i64 a, .int .i64 b, .bool true, .slice A9 x.length c9] 37)) := (Below.refl _ w9).alloc (Nat.le_refl _) _
          have hX10 : Blk (w9.alloc (.cells #[.int .i64 ((k : Int) + 1), .int .i64 a, .int .i64 b, .bool true, .slice A9 x.length c9] 37)) w9.heap.size 37 [.int .i64 ((k : Int) + 1), .int .i64 a, .int .i64 b, .bool true, .slice A9 x.length c9] := Blk.new w9 _ _
          have hF10 := hF9.below hal9
          have hR10 := hRB9.below hal9
          clear hF9 hRB9 hal9 hb9 ho9 hF hb6
          go_wp2_with fail
          generalize (w9.alloc (.cells #[.int .i64 ((k : Int) + 1), .int .i64 a, .int .i64 b, .bool true, .slice A9 x.length c9] 37)) = w10 at *
          obtain ⟨ad', B1', cb', ead, hcell9, hcb9, hB19⟩ := (hA.below hb10).at_ k hlt
          rw [HXX.out] at hcell9 hcb9 hB19
          injection ead with ead
          subst ead
          obtain ⟨x0, x1, x2, x3, x4⟩ := blk5l hX10
          have hlt10 := hX10.lt
          have s1 := fun m => run_str (P := Try.prog) (w10.drewN m) _ _ _ Try.underlying29 Try.underlying5 Try.underlying9 _ _ c9 _ (hR10.drewN m) rfl
          have s2 := fun m => run_str (P := Try.prog) (w10.drewN m) _ _ _ Try.underlying29 Try.underlying5 Try.underlying9 _ _ cb' _ (hB19.drewN m) rfl
          have hki : (k : Int) < (ps.length : Int) := by omega
          have hk0 : (0 : Int) ≤ (k : Int) := by omega
          have hcm : ((bs x).toList == (bs x).toList) = true := by simp
          have hcn : ((bs x).toList != (bs x).toList) = false := by rw [bne, hcm]; rfl
          have w4 : IntKind.i64.wrap ((k : Int) + 1) = (k : Int) + 1 := IntWalk.i64_in _ (by omega)
          generalize bs x = bx at *
          clear hX10 hR10 hB19
          go_wp2_with fail
          go_quiet (fail)
          go_wp2_with fail
          go_roundw
          case rel =>
            refine ⟨k + 1, by omega, by go_num, fl9, l2.drop 1, ?_, ?_, ?_, below_drewN hb10 nq⟩
            · have h := hF10.below (below_dn w10 nq)
              simpa [List.drop_drop, Nat.add_comm] using h
            · have := HLK.out
              rw [List.length_drop]; omega
            · intro j v hv
              rw [List.getElem?_drop] at hv
              rw [HID.out _ v hv]
              congr 1
              omega
          case measure => simp [intOf]; omega
        · obtain rfl : k = ps.length := by omega
          go_wp2_with fail
          (with_reducible refine (flen_i B B _ fl2 l2 _ 0 wr hF (by have := HLK.out; omega)).mono ?_)
          rintro e w7 ⟨rfl, rfl⟩
          go_wp2_with fail
          go_ret
          exact ⟨rfl, hb6⟩
end Go.Proofs.Ytikichifdkgobaa
