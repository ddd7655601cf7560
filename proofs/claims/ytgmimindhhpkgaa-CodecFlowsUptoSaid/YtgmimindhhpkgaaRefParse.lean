/- The walk of the document's Parse. -/
import Derived.Test.YtgmimindhhpkgaaPlaces
import Derived.Test.YtgmimindhhpkgaaParse
import Derived.Test.YtgmimindhhpkgaaRefFrame
namespace Go.Proofs.Ytgmimindhhpkgaa
set_option linter.unusedVariables false
set_option linter.unusedSimpArgs false
open Go.RowKit

/-- What the document's Parse holds behind so many numbers. -/
def Held (w : World) (g5 : Nat) (k1 : Int) (acc : List Int) (wx : World) : Prop :=
  (∃ vn, Blk wx g5 25 [.int .i64 k1, vn, .slice none 0 0] ∧ wx.ownsRow (g5 + 1) 3 1 vn acc.length (acc.map iv)) ∧ Blk wx w.heap.size 25 [.int .i64 0, .slice none 0 0, .slice none 0 0] ∧ Below w.heap.size w wx ∧ g5 < wx.heap.size
theorem held_step {w w4 : World} {g5 : Nat} {k1 x : Int} {acc : List Int} {vn v : Value} (hM : Blk w4 g5 25 [.int .i64 k1, vn, .slice none 0 0])
    (hG : Blk w4 w.heap.size 25 [.int .i64 0, .slice none 0 0, .slice none 0 0]) (ho : w4.ownsRow (g5 + 1) 3 1 v (acc.length + 1) (acc.map iv ++ [iv x])) (hb : Below w.heap.size w w4) (hg : w.heap.size < g5) :
    Held w g5 k1 (acc ++ [x]) (w4.setCell ⟨g5, 1, none⟩ v) := by
  have hl := hM.lt
  refine ⟨⟨v, ?_, ?_⟩, hG.grown (grown_set w4 g5 1 v) (by simp; omega), hb.setCell (by simp; omega) _, by simpa [World.setCell] using hl⟩
  · have := hM.set_ 1 v
    simpa using this
  · have h2 := own_set (i := 1) (u := v) (show g5 < g5 + 1 by omega) ho
    simpa using h2

theorem own_apart {w : World} {base size n : Nat} {e : TypeId} {v : Value} {xs : List Value} {h0 : Nat} (hh : w.heap.size ≤ h0) (h : w.ownsRow base e size v n xs) : v.ownBlock = none ∨ v.ownBlock ≠ some h0 := by
  cases hv : v.ownBlock with
  | none => exact .inl rfl
  | some k => exact .inr (by have := (h.lt k hv).2; simp; omega)

set_option maxRecDepth 100000 in
set_option maxHeartbeats 3200000 in
theorem rparse_bad (b : List UInt8) (A : Option Addr) (c : Nat) (w : World) (hA : RB w A b) (hc : b.length ≤ c) (hl : b.length ≤ 2000000)
    (hs : b.length < 13 ∨ (∃ h4 : 4 < b.length, 40 < (b[4]).toNat) ∨ (∃ h4 : 4 < b.length, b.length < 13 + 8 * (b[4]).toNat)) :
    Calls Try.prog 19 #[.slice A b.length c] w fun e w' => e = .returned (.tuple #[mg0, iv 3]) ∧ Below w.heap.size w w' := by
  by_cases h13 : b.length < 13
  · clear hs
    go_enter Try.func19, Try.ntmps19
    go_wp2
    try rw [Exit.noGoto_ret]
    refine bodyPost_ret (results_cellT rfl _ _ w.heap.size 25 [.int .i64 0, .slice none 0 0, .slice none 0 0] _ rfl ?_ Try.underlying25 rfl (by kernel_rfl)) rfl ?_
    · exact Blk.new w _ _
    · exact ⟨rfl, (Below.refl _ _).alloc (Nat.le_refl _) _⟩
  · obtain ⟨ad, rfl, c4⟩ := hA.at_ 4 (by omega)
    replace c4 := cell_keep ((Below.refl w.heap.size w).alloc (Nat.le_refl _) (.cells #[.int .i64 0, .slice none 0 0, .slice none 0 0] 25)) c4
    rw [add_pos' ad 4 (by omega)] at c4
    have hlt := (b[4]'(by omega)).toNat_lt
    generalize hx : b[4]'(by omega) = x at *
    have h4 : (4 : Int) < (b.length : Int) := by omega
    have h13' : (13 : Int) ≤ (b.length : Int) := by omega
    by_cases h40 : 40 < x.toNat
    · clear hs hx
      go_enter Try.func19, Try.ntmps19
      go_wp2
      try rw [Exit.noGoto_ret]
      refine bodyPost_ret (results_cellT rfl _ _ w.heap.size 25 [.int .i64 0, .slice none 0 0, .slice none 0 0] _ rfl ?_ Try.underlying25 rfl (by kernel_rfl)) rfl ?_
      · exact Blk.new w _ _
      · exact ⟨rfl, (Below.refl _ _).alloc (Nat.le_refl _) _⟩
    · have hs3 : b.length < 13 + 8 * x.toNat := by
        rcases hs with h | ⟨h, h'⟩ | ⟨h, h'⟩
        · omega
        · exact absurd (hx ▸ h') h40
        · exact hx ▸ h'
      clear hs hx
      have hs4 : (b.length : Int) < 13 + 8 * (x.toNat : Int) := by omega
      go_enter Try.func19, Try.ntmps19
      go_wp2
      try rw [Exit.noGoto_ret]
      refine bodyPost_ret (results_cellT rfl _ _ w.heap.size 25 [.int .i64 0, .slice none 0 0, .slice none 0 0] _ rfl ?_ Try.underlying25 rfl (by kernel_rfl)) rfl ?_
      · exact Blk.new w _ _
      · exact ⟨rfl, (Below.refl _ _).alloc (Nat.le_refl _) _⟩

set_option maxRecDepth 100000 in
set_option maxHeartbeats 3200000 in
theorem rparse_long (b : List UInt8) (A : Option Addr) (c : Nat) (w : World) (hA : RB w A b) (hc : b.length ≤ c) (hl : b.length ≤ 2000000)
    (h4 : 4 < b.length) (h40 : (b[4]).toNat ≤ 40) (h13 : 13 + 8 * (b[4]).toNat ≤ b.length) :
    Calls Try.prog 19 #[.slice A b.length c] w fun e w' => ParsePost w.heap.size b (iv 0) (iv 3) e w' ∧ Below w.heap.size w w' := by
  obtain ⟨ad, rfl, c4⟩ := hA.at_ 4 (by omega)
  obtain ⟨ad', e, c3⟩ := hA.at_ 3 (by omega)
  injection e with e; subst e
  have HP := Lib.hid (fun m (hm : IsFrame b m) => placed_eq hm (k := (b[3]'(by omega)).toNat) (n := (b[4]'(by omega)).toNat) (by rw [List.getElem?_eq_getElem (by omega)]; rfl) (by rw [List.getElem?_eq_getElem (by omega)]; rfl))
  rw [add_pos' ad 4 (by omega)] at c4
  rw [add_pos' ad 3 (by omega)] at c3
  have hx3 := (b[3]'(by omega)).toNat_lt
  generalize (b[3]'(by omega)) = x3 at *
  generalize hx : (b[4]'(by omega)) = x at *
  clear hx
  have h4i : (4 : Int) < (b.length : Int) := by omega
  have h13i : 13 + 8 * (x.toNat : Int) ≤ (b.length : Int) := by omega
  have hb1 : Below w.heap.size w (w.alloc (.cells #[.int .i64 0, .slice none 0 0, .slice none 0 0] 25)) := (Below.refl w.heap.size w).alloc (Nat.le_refl _) _
  have c4' := cell_keep hb1 c4
  have c3' := cell_keep hb1 c3
  go_enter Try.func19, Try.ntmps19
  go_wp2_with fail
  obtain ⟨i0, hi, hz0, hz1, hz2⟩ := info_parts info_int
  go_loopw [6, 7] (fun a i wr => ∃ k p : Nat, k ≤ x.toNat ∧ Hid (p = 5 + 8 * k) ∧ a = .int .i64 (p : Int) ∧ i = .int .i64 (k : Int) ∧ Held w (w.heap.size + 1) (x3.toNat : Int) (numsAt b k) wr) (fun _ i _ => x.toNat - (intOf i).toNat)
  case atStart =>
    refine ⟨0, 5, Nat.zero_le _, rfl, rfl, rfl, ⟨_, ?_, World.ownsRow_nil _ _ _ _⟩, (Blk.new w _ _).alloc _, hb1.alloc (by simp) _, by simp⟩
    simpa using Blk.new (w.alloc (.cells #[.int .i64 0, .slice none 0 0, .slice none 0 0] 25)) 25 [.int .i64 (x3.toNat : Int), .slice none 0 0, .slice none 0 0]
  case round =>
    obtain ⟨k, p, hk, HPP, rfl, rfl, ⟨vn, hM, hown⟩, hG, hb, hg5⟩ := hrel
    have c4r := cell_keep hb c4
    have cN := hM.cell 1
    simp only [List.getElem?_cons_zero, List.getElem?_cons_succ] at cN
    by_cases hkx : k < x.toNat
    · go_wp2_with fail
      have hpl : p + 8 + 8 ≤ b.length := by have := HPP.out; omega
      have HS := Lib.hid (numsAt_snoc b k)
      go_loop [8, 9] (fun n j => ∃ i : Nat, i ≤ 8 ∧ j = .int .i64 (i : Int) ∧ n = .int .u64 (val ((b.drop p).take i) : Int)) (fun _ j => 8 - (intOf j).toNat)
      case atStart => exact ⟨0, by omega, rfl, rfl⟩
      case round =>
        obtain ⟨i, hi8, rfl, rfl⟩ := hrel
        by_cases hil : i < 8
        · obtain ⟨ad', e, ci⟩ := hA.at_ (p + i) (by omega)
          injection e with e; subst e
          replace ci := cell_keep hb ci
          have H1 : Hid (val ((b.drop p).take (i + 1)) = val ((b.drop p).take i) * 256 + (b[p + i]'(by omega)).toNat) := by
            show val ((b.drop p).take (i + 1)) = _
            rw [take_snoc _ _ (by rw [List.length_drop]; omega), val_snoc, List.getElem_drop]
          have hv := val_lt ((b.drop p).take i)
          have hv2 : val ((b.drop p).take i) < 72057594037927936 := by
            have h1 : ((b.drop p).take i).length ≤ 7 := by rw [List.length_take]; omega
            have h2 : 256 ^ ((b.drop p).take i).length ≤ 256 ^ 7 := Nat.pow_le_pow_right (by omega) h1
            have h3 : (256 : Nat) ^ 7 = 72057594037927936 := by decide
            omega
          clear hv
          generalize val ((b.drop p).take i) = y at *
          have hyl := (b[p + i]'(by omega)).toNat_lt
          generalize (b[p + i]'(by omega)) = z at *
          have HW : Hid (IntKind.u64.wrap (IntKind.u64.wrap ((y : Int) * 256) + IntKind.u64.wrap (z.toNat : Int)) = ((y * 256 + z.toNat : Nat) : Int)) := by
            show IntKind.u64.wrap (IntKind.u64.wrap ((y : Int) * 256) + IntKind.u64.wrap (z.toNat : Int)) = _
            rw [IntWalk.u64_in ((y : Int) * 256) (by omega), IntWalk.u64_in (z.toNat : Int) (by omega), IntWalk.u64_in _ (by omega)]
            omega
          clear hyl hv2
          go_wp2
          go_round
          case rel => exact ⟨i + 1, by omega, by go_num, by rw [HW.out, H1.out]⟩
          case measure => simp [intOf]; omega
        · obtain rfl : i = 8 := by omega
          have hv := val_take_lt 8 (b.drop p) (by omega)
          have haccl : (numsAt b k).length ≤ 40 := by rw [numsAt_len]; omega
          generalize hv8 : val ((b.drop p).take 8) = x8 at *
          have hwr : IntKind.i64.wrap ((x8 : Nat) : Int) = s64 x8 := by unfold s64; simp [IntKind.wrap, IntKind.bits, IntKind.signed]; omega
          have HA := Lib.hid hv8
          clear hv8 hv
          have HAL := Lib.hid (numsAt_len b k)
          generalize numsAt b k = acc at *
          go_wp2_with (at_builtin; refine wl_app _ rfl (.tmp 62) (.tmp 65) 22 rfl (w.heap.size + 1 + 1) 3 i0 (.int .i64 0) 1 8 Try.underlying22 hi hz0 hz1 hz2 rfl (by omega) vn acc.length (acc.map iv) rfl (hown.alloc _) (some ⟨wr.heap.size, 0, none⟩) 1 1 [iv (s64 x8)] rfl rfl (rc_at _ [iv (s64 x8)] _ _ rfl) (by simp [Value.oneCell']) (by unfold maxLen; omega) (by omega) (by simp; omega) ?_)
          intro v4 w4 hown4 hg4 _
          obtain ⟨A4, c4', rfl, -, -, -⟩ := own_form hown4
          have hM4 := (hM.alloc _).grown hg4 (own_ne' (by omega) hown)
          have hG4 := (hG.alloc _).grown hg4 (own_ne' (by omega) hown)
          have hb4 := (hb.alloc (by omega) _).grown hg4 (by simp; omega) (fun g hg => by have := (hown.lt g hg).1; omega)
          have cN4 := hM4.cell 1
          have fN4 := hM4.frozen 1
          simp only [List.getElem?_cons_zero, List.getElem?_cons_succ] at cN4
          have HHELD := Lib.hid (held_step hM4 hG4 hown4 hb4 (by omega))
          clear hg4 hown hM cN c4r
          go_wp2
          go_roundw
          case rel =>
            refine ⟨k + 1, p + 8, by omega, by have := HPP.out; show p + 8 = 5 + 8 * (k + 1); omega, by go_num, by go_num, ?_⟩
            have e1 : numAt b k = s64 x8 := by show s64 (val ((b.drop (5 + 8 * k)).take 8)) = _; rw [← HPP.out, HA.out]
            rw [HS.out, e1]
            exact HHELD.out
          case measure => simp [intOf]; omega
    · obtain rfl : k = x.toNat := by omega
      have hnl := numsAt_len b x.toNat
      have hnI := numsAt_I64 b x.toNat
      have HPD : Hid (placed b x3.toNat x.toNat = { kind := x3.toNat, nums := numsAt b x.toNat, data := (b.drop (p + 4)).take (b.length - 4 - (p + 4)) }) := by
        show placed b x3.toNat x.toNat = _
        rw [HPP.out, show 5 + 8 * x.toNat + 4 = 9 + 8 * x.toNat from by omega]
        rfl
      generalize numsAt b x.toNat = ns at *
      have hpl : p + 4 ≤ b.length - 4 := by have := HPP.out; omega
      have HR0 : RB w (if c = p + 4 then some ad else some (ad.add (p + 4))) ((b.drop (p + 4)).take (b.length - 4 - (p + 4))) := by
        have h := (hA.drop_ rfl (p + 4) (by omega) hc).take_ (b.length - 4 - (p + 4))
        exact h
      have hrl : ((b.drop (p + 4)).take (b.length - 4 - (p + 4))).length = b.length - 4 - (p + 4) := by rw [List.length_take, List.length_drop]; omega
      generalize (b.drop (p + 4)).take (b.length - 4 - (p + 4)) = rest at *
      have HNL := Lib.hid hnl
      have HRL := Lib.hid hrl
      clear hnl hrl
      obtain ⟨j0, hj, hjz0, hjz1, hjz2⟩ := info_parts info_u8
      have HRX : RB w (some ⟨ad.block, ad.off + (p + 4), none⟩) rest := by
        have h := HR0
        rw [if_neg (by omega), add_pos' ad (p + 4) (by omega)] at h
        exact h
      clear HR0
      go_wp2_with (at_builtin; refine wl_app _ rfl (.tmp 70) (.tmp 77) 23 rfl (w.heap.size + 1 + 1) 5 j0 (.int .u8 0) 1 1 Try.underlying23 hj hjz0 hjz1 hjz2 rfl (by omega) _ _ _ rfl (own_empty wr (w.heap.size + 1 + 1) 5 wr.heap.size rfl (by omega)) _ _ _ (rest.map bv) rfl ?q1 ?q2 (one_bv rest) ?q3 ?q4 (by simp; omega) ?_)
      case q1 => rw [List.length_map, HRL.out]; omega
      case q2 => exact RB.below HRX (hb.alloc (by omega) _)
      case q3 => unfold maxLen; omega
      case q4 => omega
      intro v5 w5 hown5 hg5' _
      have hd5 : w5.ownsRow (w.heap.size + 1 + 1) 5 1 v5 rest.length (rest.map bv) := by
        have h := hown5
        rw [← HRL.out] at h
        exact h
      have hown0 := own_empty wr (w.heap.size + 1 + 1) 5 wr.heap.size rfl (by omega)
      obtain ⟨Ad, cd, rfl, hcd, -, -⟩ := own_form hd5
      have hM5 := (hM.alloc _).grown hg5' (own_ne' (by omega) hown0)
      have hG5 := (hG.alloc _).grown hg5' (own_ne' (by omega) hown0)
      have hb5 := (hb.alloc (by omega) _).grown hg5' (by simp; omega) (fun g hg => by have := (hown0.lt g hg).1; omega)
      have ho5 := (hown.alloc _).kept hg5' (own_apart (h0 := wr.heap.size) (Nat.le_refl _) hown)
      clear hown5 hg5' hown0 hown hM hG hb cN c4r
      obtain ⟨An, cn, rfl, hcn, hRn, -⟩ := own_form ho5
      have cD := hM5.cell 2
      have fD := hM5.frozen 2
      simp only [List.getElem?_cons_zero, List.getElem?_cons_succ] at cD
      go_upto_region 17 with fail
      have hM7 : Blk (w5.setCell ⟨w.heap.size + 1, 2, none⟩ (.slice Ad rest.length cd)) (w.heap.size + 1) 25 [.int .i64 (x3.toNat : Int), .slice An ns.length cn, .slice Ad rest.length cd] := by simpa using hM5.set_ 2 (.slice Ad rest.length cd)
      have hG7 := hG5.grown (grown_set w5 (w.heap.size + 1) 2 (.slice Ad rest.length cd)) (by simp)
      have hb7 : Below w.heap.size w (w5.setCell ⟨w.heap.size + 1, 2, none⟩ (.slice Ad rest.length cd)) := hb5.setCell (by simp) _
      have ho7 := own_set (g := w.heap.size + 1) (i := 2) (u := .slice Ad rest.length cd) (by omega) ho5
      have hd7 := own_set (g := w.heap.size + 1) (i := 2) (u := .slice Ad rest.length cd) (by omega) hd5
      clear hM5 hG5 hb5 ho5 hd5 cD fD hRn
      generalize w5.setCell ⟨w.heap.size + 1, 2, none⟩ (.slice Ad rest.length cd) = w7 at *
      obtain ⟨cM0, cM1, cM2⟩ := blk3 hM7
      have hv : MgV w7 (.agg #[.int .i64 (x3.toNat : Int), .slice An ns.length cn, .slice Ad rest.length cd]) { kind := x3.toNat, nums := ns, data := rest } := by
        exact ⟨An, cn, Ad, cd, rfl, hcn, hcd, RC.of_own ho7, RC.of_own hd7, hnI, by show I64 (x3.toNat : Int); unfold I64; omega⟩
      have HIS : Hid (∀ m, IsFrame b m → m = { kind := x3.toNat, nums := ns, data := rest }) := fun m hm => by rw [← HPD.out]; exact HP.out m hm
      have HNI := Lib.hid hnI
      clear HP HPD hnI
      have hs7 := hb7.size
      by_cases hgood : Good { kind := x3.toNat, nums := ns, data := rest }
      · go_wp2_with fail
        refine (rframe_good _ _ w7 hv hgood).mono ?_
        rintro e w8 ⟨v8, rfl, hown8, hb8⟩
        have hfr : Hid (∀ m, IsFrame b m → frame { kind := x3.toNat, nums := ns, data := rest } = b) := fun m hm => by rw [← HIS.out m hm]; exact hm.2.2
        generalize hfe : frame { kind := x3.toNat, nums := ns, data := rest } = fr at *
        have HFE := Lib.hid hfe
        clear hfe
        obtain ⟨B8, c8, rfl, hc8, hR8, -⟩ := own_form hown8
        have hG8 := hG7.kept hb8
        have hM8 := hM7.kept hb8
        have ho8 := own_below ho7 hb8
        have hd8 := own_below hd7 hb8
        have hb9 := hb7.trans (hb8.mono hs7)
        have s1 := run_str (P := Try.prog) w8 _ _ _ Try.underlying23 Try.underlying5 Try.underlying9 _ _ c8 _ (show RB w8 B8 fr from hR8) rfl
        have s2 := run_str (P := Try.prog) w8 _ _ _ Try.underlying23 Try.underlying5 Try.underlying9 _ _ c _ (RB.below hA hb9) rfl
        clear hM7 ho7 hd7 cM0 cM1 cM2 hb7 hv
        obtain ⟨cG0, cG1, cG2⟩ := blk3 hG8
        have fG0 := hG8.frozen 0
        have fG1 := hG8.frozen 1
        have fG2 := hG8.frozen 2
        obtain ⟨cM0, cM1, cM2⟩ := blk3 hM8
        have hcm := beq_bs fr b
        by_cases he : fr = b
        · have HIM : Hid (IsFrame b { kind := x3.toNat, nums := ns, data := rest }) := ⟨hgood, HNI.out, HFE.out.trans he⟩
          have hcm2 : ((bs fr).toList == (bs b).toList) = true := by rw [hcm]; exact decide_eq_true he
          clear he hcm
          generalize bs fr = q1 at *
          generalize bs b = q2 at *
          go_wp2_with fail
          try rw [Exit.noGoto_ret]
          refine bodyPost_ret (results_cellT rfl _ _ w.heap.size 25 [.int .i64 (x3.toNat : Int), .slice An ns.length cn, .slice Ad rest.length cd] _ rfl ?_ Try.underlying25 rfl (by kernel_rfl)) rfl ?_
          · simpa using ((hG8.set_ 0 (.int .i64 (x3.toNat : Int))).set_ 1 (.slice An ns.length cn)).set_ 2 (.slice Ad rest.length cd)
          · refine ⟨⟨fun m hm => ⟨_, rfl, ?_⟩, fun h => absurd HIM.out (h _)⟩, ((hb9.setCell (Nat.le_refl _) _).setCell (Nat.le_refl _) _).setCell (Nat.le_refl _) _⟩
            rw [HIS.out m hm]
            refine ⟨_, _, rfl, own_weaken (own_set (by omega) (own_set (by omega) (own_set (by omega) ho8))) (by omega), own_weaken (own_set (by omega) (own_set (by omega) (own_set (by omega) hd8))) (by omega)⟩
        · have HNO : Hid (∀ m, ¬ IsFrame b m) := fun m hm => he (hfr.out m hm)
          have hcm2 : ((bs fr).toList == (bs b).toList) = false := by rw [hcm]; exact decide_eq_false he
          clear he hcm
          generalize bs fr = q1 at *
          generalize bs b = q2 at *
          go_wp2_with fail
          try rw [Exit.noGoto_ret]
          refine bodyPost_ret (results_cellT rfl _ _ w.heap.size 25 [.int .i64 0, .slice none 0 0, .slice none 0 0] _ rfl ?_ Try.underlying25 rfl (by kernel_rfl)) rfl ?_
          · simpa using ((hG8.set_ 0 (.int .i64 0)).set_ 1 (.slice none 0 0)).set_ 2 (.slice none 0 0)
          · exact ⟨⟨fun m hm => absurd hm (HNO.out m), fun _ => rfl⟩, ((hb9.setCell (Nat.le_refl _) _).setCell (Nat.le_refl _) _).setCell (Nat.le_refl _) _⟩
      · have HNO : Hid (∀ m, ¬ IsFrame b m) := fun m hm => hgood (by rw [← HIS.out m hm]; exact hm.1)
        go_wp2_with fail
        refine (rframe_bad _ _ w7 hv hgood).mono ?_
        rintro e w8 ⟨rfl, hb8⟩
        have hG8 := hG7.kept hb8
        have hb9 := hb7.trans (hb8.mono hs7)
        clear hG7 hM7 ho7 hd7 cM0 cM1 cM2 hb7 hv
        obtain ⟨cG0, cG1, cG2⟩ := blk3 hG8
        have fG0 := hG8.frozen 0
        have fG1 := hG8.frozen 1
        have fG2 := hG8.frozen 2
        go_wp2_with fail
        try rw [Exit.noGoto_ret]
        refine bodyPost_ret (results_cellT rfl _ _ w.heap.size 25 [.int .i64 0, .slice none 0 0, .slice none 0 0] _ rfl ?_ Try.underlying25 rfl (by kernel_rfl)) rfl ?_
        · simpa using ((hG8.set_ 0 (.int .i64 0)).set_ 1 (.slice none 0 0)).set_ 2 (.slice none 0 0)
        · exact ⟨⟨fun m hm => absurd hm (HNO.out m), fun _ => rfl⟩, ((hb9.setCell (Nat.le_refl _) _).setCell (Nat.le_refl _) _).setCell (Nat.le_refl _) _⟩

theorem rparse_any (b : List UInt8) (A : Option Addr) (c : Nat) (w : World) (hA : RB w A b) (hc : b.length ≤ c) (hl : b.length ≤ 2000000) :
    Calls Try.prog 19 #[.slice A b.length c] w fun e w' => ParsePost w.heap.size b (iv 0) (iv 3) e w' ∧ Below w.heap.size w w' := by
  by_cases hs : b.length < 13 ∨ (∃ h4 : 4 < b.length, 40 < (b[4]).toNat) ∨ (∃ h4 : 4 < b.length, b.length < 13 + 8 * (b[4]).toNat)
  · refine (rparse_bad b A c w hA hc hl hs).mono ?_
    rintro e w' ⟨rfl, hb⟩
    exact ⟨⟨fun m hm => absurd hm (placed_not hs m), fun _ => rfl⟩, hb⟩
  · obtain ⟨h1, h2⟩ := not_or.1 hs
    obtain ⟨h2, h3⟩ := not_or.1 h2
    have h4 : 4 < b.length := by omega
    exact rparse_long b A c w hA hc hl h4 (by rcases Nat.lt_or_ge 40 (b[4]).toNat with h | h; exact absurd ⟨h4, h⟩ h2; exact h) (by rcases Nat.lt_or_ge b.length (13 + 8 * (b[4]).toNat) with h | h; exact absurd ⟨h4, h⟩ h3; exact h)
end Go.Proofs.Ytgmimindhhpkgaa
