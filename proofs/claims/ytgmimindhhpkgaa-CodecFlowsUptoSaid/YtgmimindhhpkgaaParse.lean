/- The walk of codec.Parse. -/
import Derived.Test.YtgmimindhhpkgaaFrame
import Derived.Test.YtgmimindhhpkgaaReader
import Derived.Test.YtgmimindhhpkgaaClone
import Derived.Test.YtgmimindhhpkgaaGrow
import Derived.Deep.RegionLaw
import Derived.Deep.CutBlock
import Derived.Deep.DeepCutAuto
namespace Go.Proofs.Ytgmimindhhpkgaa
set_option linter.unusedVariables false
set_option linter.unusedSimpArgs false
open Go.RowKit

theorem info_int : (Try.prog.info? 3).map (fun i => (i.zero, i.size, i.bytes)) = some (some (.int .i64 0), 1, 8) := by kernel_rfl
abbrev iv (n : Int) : Value := .int .i64 n
/-- A message that a call made: its numbers and its bytes lie in rows of their own. -/
def MgO (base : Nat) (w : World) (v : Value) (m : Mg) : Prop := ∃ vn vd, v = .agg #[.int .i64 m.kind, vn, vd] ∧ w.ownsRow base 3 1 vn m.nums.length (m.nums.map iv) ∧ w.ownsRow base 5 1 vd m.data.length (m.data.map bv)
def mg0 : Value := .agg #[.int .i64 0, .slice none 0 0, .slice none 0 0]
/-- What Parse hands back. -/
def ParsePost (base : Nat) (b : List UInt8) (ok : Value) (bad : Value) (e : Ending) (w' : World) : Prop :=
  (∀ m, IsFrame b m → ∃ v, e = .returned (.tuple #[v, ok]) ∧ MgO base w' v m) ∧ ((∀ m, ¬ IsFrame b m) → e = .returned (.tuple #[mg0, bad]))

theorem RdAt.keep {w0 w w' : World} {g : Nat} {s : Rs} (h : RdAt w0 w g s) {row : Option Nat} (hg : w.grownBy w' row) (hne : some g ≠ row) : RdAt w0 w' g s := by
  obtain ⟨A, c, hB, hc, hR⟩ := h
  exact ⟨A, c, hB.grown hg hne, hc, hR⟩
theorem RdAt.alloc {w0 w : World} {g : Nat} {s : Rs} (h : RdAt w0 w g s) (o : Obj) : RdAt w0 (w.alloc o) g s := by
  obtain ⟨A, c, hB, hc, hR⟩ := h
  exact ⟨A, c, hB.alloc _, hc, hR⟩
/-- What Parse holds behind so many numbers. -/
def Read (w : World) (g5 : Nat) (k1 : Int) (acc : List Int) (s : Rs) (wx : World) : Prop := RdAt w wx (w.heap.size + 1) s ∧
  (∃ vn, Blk wx g5 25 [.int .i64 k1, vn, .slice none 0 0] ∧ wx.ownsRow (g5 + 1) 3 1 vn acc.length (acc.map iv)) ∧ Blk wx w.heap.size 25 [.int .i64 0, .slice none 0 0, .slice none 0 0] ∧ Below w.heap.size w wx ∧ g5 < wx.heap.size
theorem read_step {w w4 : World} {g5 : Nat} {k1 x : Int} {acc : List Int} {s : Rs} {vn v : Value} (h : RdAt w w4 (w.heap.size + 1) s) (hM : Blk w4 g5 25 [.int .i64 k1, vn, .slice none 0 0])
    (hG : Blk w4 w.heap.size 25 [.int .i64 0, .slice none 0 0, .slice none 0 0]) (ho : w4.ownsRow (g5 + 1) 3 1 v (acc.length + 1) (acc.map iv ++ [iv x])) (hb : Below w.heap.size w w4) (hg : w.heap.size + 1 < g5) :
    Read w g5 k1 (acc ++ [x]) s (w4.setCell ⟨g5, 1, none⟩ v) := by
  have hl := hM.lt
  refine ⟨h.keep (grown_set w4 g5 1 v) (by simp; omega), ⟨v, ?_, ?_⟩, hG.grown (grown_set w4 g5 1 v) (by simp; omega), hb.setCell (by simp; omega) _, by simpa [World.setCell] using hl⟩
  · have := hM.set_ 1 v
    simpa using this
  · have h2 := ho.kept (grown_set w4 g5 1 v) (by
      cases hv : v.ownBlock with
      | none => exact .inl rfl
      | some k => exact .inr (by have := (ho.lt k hv).1; simp; omega))
    simpa using h2
theorem not_frame_short {b : List UInt8} (h : b.length < 7) : ∀ m, ¬ IsFrame b m := fun m hm => by have := (cand_good b m hm).1; omega
theorem not_frame_front {b : List UInt8} (h : b.take 3 ≠ [84, 80, 1]) : ∀ m, ¬ IsFrame b m := fun m hm => h (cand_good b m hm).2.1

set_option maxHeartbeats 1600000 in
theorem parse_short (b : List UInt8) (A : Option Addr) (c : Nat) (w : World) (hA : RB w A b) (hc : b.length ≤ c) (hl : b.length ≤ 2000000) (hs : b.length < 7 ∨ (7 ≤ b.length ∧ b.take 3 ≠ [84, 80, 1])) :
    Calls Try.prog 18 #[.slice A b.length c] w fun e w' => e = .returned (.tuple #[mg0, er 3]) ∧ Below w.heap.size w w' := by
  rcases hs with h | ⟨h, hf⟩
  · go_enter Try.func18, Try.ntmps18
    go_wp2
    go_step3
    go_wp2
    try rw [Exit.noGoto_ret]
    refine bodyPost_ret (results_cellT rfl _ _ w.heap.size 25 [.int .i64 0, .slice none 0 0, .slice none 0 0] _ rfl ?_ Try.underlying25 rfl (by kernel_rfl)) rfl ?_
    · exact Blk.new w _ _
    · exact ⟨rfl, (Below.refl _ _).alloc (Nat.le_refl _) _⟩
  · cases A with
    | none => exact absurd (show b.length = 0 by cases b with | nil => rfl | cons x r => obtain ⟨_, e, _⟩ := hA 0 _ rfl; cases e) (by omega)
    | some ad =>
    have hw1 : RB (w.alloc (.cells #[.int .i64 0, .slice none 0 0, .slice none 0 0] 25)) (some ad) (b.take 3) := (hA.take_ 3).below ((Below.refl _ _).alloc (Nat.le_refl _) _)
    have s1 := run_str (P := Try.prog) _ _ _ _ Try.underlying23 Try.underlying5 Try.underlying9 _ 3 c _ hw1 (by rw [List.length_take]; omega)
    have hcm : ((bs (b.take 3)).toList == [84, 80, 1]) = false := by rw [bs_toList]; exact beq_eq_false_iff_ne.2 hf
    generalize bs (b.take 3) = q at *
    go_enter Try.func18, Try.ntmps18
    go_wp2
    go_step3
    go_wp2
    try rw [Exit.noGoto_ret]
    refine bodyPost_ret (results_cellT rfl _ _ w.heap.size 25 [.int .i64 0, .slice none 0 0, .slice none 0 0] _ rfl ?_ Try.underlying25 rfl (by kernel_rfl)) rfl ?_
    · exact Blk.new w _ _
    · exact ⟨rfl, (Below.refl _ _).alloc (Nat.le_refl _) _⟩

set_option maxRecDepth 100000 in
set_option maxHeartbeats 3200000 in
theorem parse_long (b : List UInt8) (A : Option Addr) (c : Nat) (w : World) (hA : RB w A b) (hc : b.length ≤ c) (hl : b.length ≤ 2000000) (h7 : 7 ≤ b.length) (hf : b.take 3 = [84, 80, 1]) :
    Calls Try.prog 18 #[.slice A b.length c] w fun e w' => ParsePost w.heap.size b .nilIface (er 3) e w' ∧ Below w.heap.size w w' := by
  cases A with
  | none => exact absurd (show b.length = 0 by cases b with | nil => rfl | cons x r => obtain ⟨_, e, _⟩ := hA 0 _ rfl; cases e) (by omega)
  | some ad =>
  have hw1 : RB (w.alloc (.cells #[.int .i64 0, .slice none 0 0, .slice none 0 0] 25)) (some ad) (b.take 3) := (hA.take_ 3).below ((Below.refl _ _).alloc (Nat.le_refl _) _)
  have s1 := run_str (P := Try.prog) _ _ _ _ Try.underlying23 Try.underlying5 Try.underlying9 _ 3 c _ hw1 (by rw [List.length_take]; omega)
  have hcm : ((bs (b.take 3)).toList == [84, 80, 1]) = true := by rw [bs_toList]; exact beq_iff_eq.2 hf
  generalize bs (b.take 3) = q at *
  have hn : b.length - 4 - 3 ≤ c - 3 := by omega
  have HR0 : RB w (some (ad.add 3)) ((b.drop 3).take (b.length - 4 - 3)) := by
    have h := (hA.drop_ rfl 3 (by omega) hc).take_ (b.length - 4 - 3)
    rw [if_neg (by omega)] at h
    exact h
  have hrl : ((b.drop 3).take (b.length - 4 - 3)).length = b.length - 4 - 3 := by rw [List.length_take, List.length_drop]; omega
  have HRL := Lib.hid hrl
  clear hrl
  go_enter Try.func18, Try.ntmps18
  go_wp2
  go_step3
  go_wp2_with fail
  have hs0 : Hid ((cand b) = cand b) := rfl
  have hG2 : Blk ((w.alloc (.cells #[.int .i64 0, .slice none 0 0, .slice none 0 0] 25)).alloc (.cells #[.slice (some ⟨ad.block, ad.off + 3, none⟩) (b.length - 4 - 3) (c - 3), .bool false] 71)) w.heap.size 25 [.int .i64 0, .slice none 0 0, .slice none 0 0] := (Blk.new w _ _).alloc _
  have hrd : RdAt w ((w.alloc (.cells #[.int .i64 0, .slice none 0 0, .slice none 0 0] 25)).alloc (.cells #[.slice (some ⟨ad.block, ad.off + 3, none⟩) (b.length - 4 - 3) (c - 3), .bool false] 71)) (w.heap.size + 1) ((b.drop 3).take (b.length - 4 - 3), false) := by
    refine ⟨some (ad.add 3), c - 3, ?_, by rw [HRL.out]; exact hn, HR0⟩
    rw [HRL.out, add_pos' ad 3 (by omega)]
    have h := Blk.new (w.alloc (.cells #[.int .i64 0, .slice none 0 0, .slice none 0 0] 25)) 71 [.slice (some ⟨ad.block, ad.off + 3, none⟩) (b.length - 4 - 3) (c - 3), .bool false]
    simpa using h
  have hb0 : Below w.heap.size w ((w.alloc (.cells #[.int .i64 0, .slice none 0 0, .slice none 0 0] 25)).alloc (.cells #[.slice (some ⟨ad.block, ad.off + 3, none⟩) (b.length - 4 - 3) (c - 3), .bool false] 71)) := ((Below.refl _ w).alloc (Nat.le_refl _) _).alloc (by simp) _
  have HCD := Lib.hid (cand_eq b)
  have hs0l : ((b.drop 3).take (b.length - 4 - 3), false).1.length ≤ 4000000 := by show ((b.drop 3).take (b.length - 4 - 3)).length ≤ _; rw [HRL.out]; omega
  clear hs0 HR0 HRL hn
  generalize (((b.drop 3).take (b.length - 4 - 3), false) : Rs) = s0 at *
  generalize (w.alloc (.cells #[.int .i64 0, .slice none 0 0, .slice none 0 0] 25)).alloc (.cells #[.slice (some ⟨ad.block, ad.off + 3, none⟩) (b.length - 4 - 3) (c - 3), .bool false] 71) = wa at *
  refine (reader_any 1 (w.heap.size + 1) s0 w wa hrd hb0 (by omega) (by omega) (by omega) hs0l).mono ?_
  rintro e w1 ⟨rfl, hrd1, hgr1, hb1⟩
  have hG2' := hG2.grown hgr1 (by simp)
  have hk1 := numR_lt256 s0
  have hk1l := numR_len 1 s0
  generalize numR 1 s0 = r1 at *
  have hs1 := hb1.size
  have hwa := hgr1.size
  have hgs : w.heap.size + 1 < w1.heap.size := by obtain ⟨_, _, h, _⟩ := hrd1; exact h.lt
  obtain ⟨k1, s1r⟩ := r1
  simp only at HCD hrd1 hk1 hk1l
  go_wp2_with fail
  clear hrd hgr1 hG2 hb0
  have hb1' : Below w.heap.size w (w1.alloc (.cells #[.int .i64 (k1 : Int), .slice none 0 0, .slice none 0 0] 25)) := hb1.alloc hs1 _
  have hrd1' : RdAt w (w1.alloc (.cells #[.int .i64 (k1 : Int), .slice none 0 0, .slice none 0 0] 25)) (w.heap.size + 1) s1r := hrd1.alloc _
  have hM : Blk (w1.alloc (.cells #[.int .i64 (k1 : Int), .slice none 0 0, .slice none 0 0] 25)) w1.heap.size 25 [.int .i64 (k1 : Int), .slice none 0 0, .slice none 0 0] := Blk.new w1 _ _
  have hG : Blk (w1.alloc (.cells #[.int .i64 (k1 : Int), .slice none 0 0, .slice none 0 0] 25)) w.heap.size 25 [.int .i64 0, .slice none 0 0, .slice none 0 0] := hG2'.alloc _
  clear hrd1 hb1 hG2'
  generalize w1.heap.size = g5 at *
  generalize w1.alloc (.cells #[.int .i64 (k1 : Int), .slice none 0 0, .slice none 0 0] 25) = wb at *
  refine (reader_any 1 (w.heap.size + 1) s1r w wb hrd1' hb1' (by omega) (by omega) (by omega) (by omega)).mono ?_
  rintro e w2 ⟨rfl, hrd2, hgr2, hb2⟩
  have hM2 := hM.grown hgr2 (by simp; omega)
  have hG2 := hG.grown hgr2 (by simp)
  have hgs2 := hM2.lt
  have hk2 := numR_lt256 s1r
  have hk2l := numR_len 1 s1r
  clear hrd1' hb1' hM hG hgr2
  generalize numR 1 s1r = r2 at *
  obtain ⟨n, s2⟩ := r2
  simp only at HCD hrd2 hk2 hk2l
  have hl2 : s2.1.length ≤ 4000000 := by omega
  go_upto_block 0 with fail
  go_step3
  go_upto_block 0 with fail
  obtain ⟨i0, hi, hz0, hz1, hz2⟩ := info_parts info_int
  go_cut [] (fun wx => Read w g5 k1 (numsR n s2).1 (numsR n s2).2 wx)
  case first =>
    go_wp2_with fail
    go_loopg [36] n (fun k i wr => ∃ acc s, k ≤ n ∧ i = .int .i64 ((n - k : Nat) : Int) ∧ Hid (numsR n s2 = (acc ++ (numsR k s).1, (numsR k s).2) ∧ acc.length = n - k) ∧ s.1.length ≤ 4000000 ∧ Read w g5 k1 acc s wr)
    case atStart => exact ⟨[], s2, Nat.le_refl _, by rw [Nat.sub_self]; rfl, ⟨by simp, by simp⟩, hl2, hrd2, ⟨_, hM2, World.ownsRow_nil _ _ _ _⟩, hG2, hb2, hgs2⟩
    case round =>
      obtain ⟨acc, s, hk, rfl, HE, hsl, hrd⟩ := hrel
      clear hrd2 hM2 hG2 hb2
      rcases gk with _ | k
      · go_wp2_with fail
        go_meet
        have h := HE.out.1
        simp only [numsR, List.append_nil] at h
        rw [h]
        exact hrd
      · obtain ⟨hr1, ⟨vn, hr2, hr3⟩, hr4, hr5, hr6⟩ := hrd
        have cN := hr2.cell 1
        simp only [List.getElem?_cons_zero, List.getElem?_cons_succ] at cN
        have hlt : ((n - (k + 1) : Nat) : Int) < (n : Int) := by omega
        have haccl : acc.length ≤ 300 := by have := HE.out.2; omega
        have hnum := reader_any 8 (w.heap.size + 1) s w wr.drew hr1 (Below.drew hr5) (by omega) (by omega) (by omega) hsl
        have h8l := numR_len 8 s
        have h8 : (numR 8 s).1 < 18446744073709551616 := numR_lt 8 s (by omega)
        have HE2 : Hid (numsR n s2 = (acc ++ (if (numR 8 s).2.2 then ([s64 (numR 8 s).1], (numR 8 s).2) else (s64 (numR 8 s).1 :: (numsR k (numR 8 s).2).1, (numsR k (numR 8 s).2).2)).1,
            (if (numR 8 s).2.2 then ([s64 (numR 8 s).1], (numR 8 s).2) else (s64 (numR 8 s).1 :: (numsR k (numR 8 s).2).1, (numsR k (numR 8 s).2).2)).2)) := HE.out.1
        generalize numR 8 s = r8 at *
        obtain ⟨x8, s8⟩ := r8
        simp only at HE2 hnum h8l h8
        have hwr : IntKind.i64.wrap ((x8 : Nat) : Int) = s64 x8 := by unfold s64; simp [IntKind.wrap, IntKind.bits, IntKind.signed]; omega
        have HNUM := Lib.hid hnum
        clear hnum
        go_upto_region 8 with fail
        go_cut [] (fun wx => Read w g5 k1 (acc ++ [s64 x8]) s8 wx)
        case first =>
          go_region_law (first
            | (refine step_app _ rfl (.tmp 39) (.tmp 43) 22 rfl (g5 + 1) 3 i0 (.int .i64 0) 1 8 Try.underlying22 hi hz0 hz1 hz2 rfl (by omega) vn acc.length (acc.map iv) rfl (hown3.alloc _) (some ⟨w3.heap.size, 0, none⟩) 1 1 [iv (s64 x8)] rfl rfl (rc_at _ [iv (s64 x8)] _ _ rfl) (by simp [Value.oneCell']) (by unfold maxLen; omega) (by omega) (by simp; omega) ?_; intro v4 w4 hown4 hg4 _; obtain ⟨A4, c4, rfl, -, -, -⟩ := own_form hown4; have hM4 := (hM3.alloc _).grown hg4 (own_ne' (by omega) hr3); have hG4 := (hG3.alloc _).grown hg4 (own_ne' (by omega) hr3); have hrd4 := (hrd3.alloc _).keep hg4 (own_ne' (by omega) hr3); have cN4 := hM4.cell 1; have fN4 := hM4.frozen 1; simp only [List.getElem?_cons_zero, List.getElem?_cons_succ] at cN4)
            | (go_simp; go_at_call 36; refine HNUM.out.mono ?_; rintro e w3 ⟨rfl, hrd3, hgr3, hb3⟩; have hM3 := (show Blk wr.drew g5 _ _ from hr2).grown hgr3 (by simp; omega); have hG3 := (show Blk wr.drew w.heap.size _ _ from hr4).grown hgr3 (by simp); have cN3 := hM3.cell 1; simp only [List.getElem?_cons_zero, List.getElem?_cons_succ] at cN3; have hsz3 := hM3.lt; have hown3 := hr3.drew.kept hgr3 (own_ne (by omega) hr3)))
          all_goals
            go_wp2_with fail
            go_meet
            exact read_step hrd4 hM4 hG4 hown4 ((hb3.alloc (by omega) _).grown hg4 (by simp; omega) (fun g hg => by have := (hr3.lt g hg).1; omega)) hgs
        case rest =>
          clear hr1 hr2 hr3 hr4 hr5 hr6 cN HNUM
          obtain ⟨hr1, ⟨vn3, hr2, hr3⟩, hr4, hr5, hr6⟩ := id hcut
          obtain ⟨A3, c3, hB3, hc3, hR3⟩ := id hr1
          obtain ⟨rest3, br3⟩ := s8
          simp only at hB3 hR3 hc3 HE2 h8l
          have cB := hB3.cell 1
          simp only [List.getElem?_cons_zero, List.getElem?_cons_succ] at cB
          cases br3 with
          | true =>
            go_wp2_with fail
            go_meet
            have h := HE2.out
            simp only [if_true] at h
            rw [h]
            exact hcut
          | false =>
            go_wp2_with fail
            go_roundg k
            case rel =>
              refine ⟨acc ++ [s64 x8], (rest3, false), by omega, by go_num, ⟨?_, by have := HE.out.2; simp; omega⟩, by simp only; omega, hcut⟩
              have h := HE2.out
              simpa using h
            case measure => omega
  case rest =>
    obtain ⟨hr1, ⟨vn, hr2, hr3⟩, hr4, hr5, hr6⟩ := hcut
    clear hrd2 hM2 hG2 hb2
    have hnI := numsR_I64 n s2
    have hnl := numsR_len n s2
    have hnn := numsR_num n s2
    generalize numsR n s2 = ns at *
    obtain ⟨ns, s3⟩ := ns
    simp only at HCD hr1 hr3 hnI hnl hnn
    go_wp2_with fail
    refine (reader_any 4 (w.heap.size + 1) s3 w wc hr1 hr5 (by omega) (by omega) (by omega) (by omega)).mono ?_
    rintro e w5 ⟨rfl, hrd5, hgr5, hb5⟩
    have hM5 := hr2.grown hgr5 (by simp; omega)
    have hG5 := hr4.grown hgr5 (by simp)
    have hown5 := hr3.kept hgr5 (own_ne (by omega) hr3)
    have h4 := numR_lt32 s3
    have h4l := numR_len 4 s3
    generalize numR 4 s3 = r4 at *
    obtain ⟨z, rest, br⟩ := r4
    simp only at HCD hrd5 h4 h4l
    clear hr1 hr2 hr3 hr4 hr5 hgr5
    obtain ⟨A5, c5, hB5, hc5, hR5⟩ := hrd5
    simp only at hB5 hc5 hR5
    have cR := hB5.cell 0
    have hMl := hM5.lt
    simp only [List.getElem?_cons_zero, List.getElem?_cons_succ] at cR
    go_wp2_with fail
    refine (clone_any rest A5 c5 w5 (hR5.below hb5) hc5 (by omega)).mono ?_
    rintro e w6 ⟨vd, rfl, hown6, hb6⟩
    obtain ⟨Ad, cd, rfl, hcd, -, -⟩ := own_form hown6
    have hM6 := hM5.kept hb6
    have hG6 := hG5.kept hb6
    have hB6 := hB5.kept hb6
    have hown6' := own_below hown5 hb6
    clear cR
    have fD := hM6.frozen 2
    have cD := hM6.cell 2
    simp only [List.getElem?_cons_zero, List.getElem?_cons_succ] at cD
    go_upto_region 13 with fail
    have hM7 : Blk (w6.setCell ⟨g5, 2, none⟩ (.slice Ad rest.length cd)) g5 25 [.int .i64 (k1 : Int), vn, .slice Ad rest.length cd] := by simpa using hM6.set_ 2 (.slice Ad rest.length cd)
    have hG7 := hG6.grown (grown_set w6 g5 2 (.slice Ad rest.length cd)) (by simp; omega)
    have hB7 := hB6.grown (grown_set w6 g5 2 (.slice Ad rest.length cd)) (by simp; omega)
    have hb7 : Below w.heap.size w (w6.setCell ⟨g5, 2, none⟩ (.slice Ad rest.length cd)) := (hb5.trans (hb6.mono hb5.size)).setCell (by simp; omega) _
    have ho7 := hown6'.kept (grown_set w6 g5 2 (.slice Ad rest.length cd)) (own_ne (by omega) hown6')
    have hd7 := hown6.kept (grown_set w6 g5 2 (.slice Ad rest.length cd)) (own_ne (by omega) hown6)
    clear hM5 hG5 hown5 hM6 hG6 hB6 hown6 hown6' fD cD hb5 hb6 hB5 hR5
    generalize w6.setCell ⟨g5, 2, none⟩ (.slice Ad rest.length cd) = w7 at *
    obtain ⟨cG0, cG1, cG2⟩ := blk3 hG7
    obtain ⟨cM0, cM1, cM2⟩ := blk3 hM7
    have fG0 := hG7.frozen 0
    have fG1 := hG7.frozen 1
    have fG2 := hG7.frozen 2
    have cB := hB7.cell 1
    simp only [List.getElem?_cons_zero, List.getElem?_cons_succ] at cB
    by_cases hbad : br = true ∨ z ≠ rest.length
    · have hno := no_fits HCD.out hbad
      cases br with
      | true =>
        go_wp2_with fail
        try rw [Exit.noGoto_ret]
        refine bodyPost_ret (results_cellT rfl _ _ w.heap.size 25 [.int .i64 0, .slice none 0 0, .slice none 0 0] _ rfl ?_ Try.underlying25 rfl (by kernel_rfl)) rfl ?_
        · simpa using ((hG7.set_ 0 (.int .i64 0)).set_ 1 (.slice none 0 0)).set_ 2 (.slice none 0 0)
        · exact ⟨⟨fun m hm => absurd hm (hno m), fun _ => rfl⟩, ((hb7.setCell (Nat.le_refl _) _).setCell (Nat.le_refl _) _).setCell (Nat.le_refl _) _⟩
      | false =>
        have hz : ((z : Int) == (rest.length : Int)) = false := by
          rcases hbad with h | h
          · cases h
          · simp; omega
        have HNO := Lib.hid hno
        clear hno hbad
        go_wp2_with fail
        try rw [Exit.noGoto_ret]
        refine bodyPost_ret (results_cellT rfl _ _ w.heap.size 25 [.int .i64 0, .slice none 0 0, .slice none 0 0] _ rfl ?_ Try.underlying25 rfl (by kernel_rfl)) rfl ?_
        · simpa using ((hG7.set_ 0 (.int .i64 0)).set_ 1 (.slice none 0 0)).set_ 2 (.slice none 0 0)
        · exact ⟨⟨fun m hm => absurd hm (HNO.out m), fun _ => rfl⟩, ((hb7.setCell (Nat.le_refl _) _).setCell (Nat.le_refl _) _).setCell (Nat.le_refl _) _⟩
    · obtain ⟨hbr, hz⟩ := not_or.1 hbad
      obtain rfl : br = false := by simpa using hbr
      obtain rfl : z = rest.length := by omega
      clear hbad hbr hz
      obtain ⟨An, cn, rfl, hcn, hRn, -⟩ := own_form ho7
      have hv : MgV w7 (.agg #[.int .i64 (k1 : Int), .slice An ns.length cn, .slice Ad rest.length cd]) { kind := k1, nums := ns, data := rest } := by
        exact ⟨An, cn, Ad, cd, rfl, hcn, hcd, hRn, RC.of_own hd7, hnI, by show I64 (k1 : Int); unfold I64; omega⟩
      have HIS := Lib.hid (fun m (hm : IsFrame b m) => (cand_is hm HCD.out).1)
      have HNI := Lib.hid hnI
      clear HCD hnI
      by_cases hgood : Good { kind := k1, nums := ns, data := rest }
      · go_wp2_with fail
        refine (frame_good _ _ w7 hv hgood).mono ?_
        rintro e w8 ⟨v8, rfl, hown8, hb8⟩
        have hfr : Hid (∀ m, IsFrame b m → frame { kind := k1, nums := ns, data := rest } = b) := fun m hm => by rw [← HIS.out m hm]; exact hm.2.2
        generalize hfe : frame { kind := k1, nums := ns, data := rest } = fr at *
        have HFE := Lib.hid hfe
        clear hfe
        obtain ⟨B8, c8, rfl, hc8, hR8, -⟩ := own_form hown8
        have hG8 := hG7.kept hb8
        have hM8 := hM7.kept hb8
        have ho8 := own_below ho7 hb8
        have hd8 := own_below hd7 hb8
        have hs7 := hb7.size
        have hb9 := hb7.trans (hb8.mono hs7)
        clear hG7 hM7 ho7 hd7 cG0 cG1 cG2 cM0 cM1 cM2 fG0 fG1 fG2 cB hb7
        obtain ⟨cG0, cG1, cG2⟩ := blk3 hG8
        have fG0 := hG8.frozen 0
        have fG1 := hG8.frozen 1
        have fG2 := hG8.frozen 2
        obtain ⟨cM0, cM1, cM2⟩ := blk3 hM8
        by_cases he : fr = b
        · have HIM : Hid (IsFrame b { kind := k1, nums := ns, data := rest }) := ⟨hgood, HNI.out, HFE.out.trans he⟩
          have HE := Lib.hid he
          clear he
          go_wp2_with fail
          refine (equal_any fr b B8 (some ad) c8 c w8 hR8 (RB.below hA hb9)).mono ?_
          rintro e w9 ⟨rfl, rfl⟩
          rw [show decide (fr = b) = true from decide_eq_true HE.out]
          go_wp2_with fail
          try rw [Exit.noGoto_ret]
          refine bodyPost_ret (results_cellT rfl _ _ w.heap.size 25 [.int .i64 (k1 : Int), .slice An ns.length cn, .slice Ad rest.length cd] _ rfl ?_ Try.underlying25 rfl (by kernel_rfl)) rfl ?_
          · simpa using ((hG8.set_ 0 (.int .i64 (k1 : Int))).set_ 1 (.slice An ns.length cn)).set_ 2 (.slice Ad rest.length cd)
          · refine ⟨⟨fun m hm => ⟨_, rfl, ?_⟩, fun h => absurd HIM.out (h _)⟩, ((hb9.setCell (Nat.le_refl _) _).setCell (Nat.le_refl _) _).setCell (Nat.le_refl _) _⟩
            rw [HIS.out m hm]
            refine ⟨_, _, rfl, own_weaken (own_set (by omega) (own_set (by omega) (own_set (by omega) ho8))) (by omega), own_weaken (own_set (by omega) (own_set (by omega) (own_set (by omega) hd8))) (by omega)⟩
        · have HNO : Hid (∀ m, ¬ IsFrame b m) := fun m hm => he (hfr.out m hm)
          have HE := Lib.hid he
          clear he
          go_wp2_with fail
          refine (equal_any fr b B8 (some ad) c8 c w8 hR8 (RB.below hA hb9)).mono ?_
          rintro e w9 ⟨rfl, rfl⟩
          rw [show decide (fr = b) = false from decide_eq_false HE.out]
          go_wp2_with fail
          try rw [Exit.noGoto_ret]
          refine bodyPost_ret (results_cellT rfl _ _ w.heap.size 25 [.int .i64 0, .slice none 0 0, .slice none 0 0] _ rfl ?_ Try.underlying25 rfl (by kernel_rfl)) rfl ?_
          · simpa using ((hG8.set_ 0 (.int .i64 0)).set_ 1 (.slice none 0 0)).set_ 2 (.slice none 0 0)
          · exact ⟨⟨fun m hm => absurd hm (HNO.out m), fun _ => rfl⟩, ((hb9.setCell (Nat.le_refl _) _).setCell (Nat.le_refl _) _).setCell (Nat.le_refl _) _⟩
      · have hno : ∀ m, ¬ IsFrame b m := fun m hm => hgood (by rw [← HIS.out m hm]; exact hm.1)
        have HNO := Lib.hid hno
        clear hno
        go_wp2_with fail
        refine (frame_bad _ _ w7 hv hgood).mono ?_
        rintro e w8 ⟨rfl, hb8⟩
        have hG8 := hG7.kept hb8
        have hs7 := hb7.size
        have hb9 := hb7.trans (hb8.mono hs7)
        clear hG7 hM7 ho7 hd7 cG0 cG1 cG2 cM0 cM1 cM2 fG0 fG1 fG2 cB hb7
        obtain ⟨cG0, cG1, cG2⟩ := blk3 hG8
        have fG0 := hG8.frozen 0
        have fG1 := hG8.frozen 1
        have fG2 := hG8.frozen 2
        go_wp2_with fail
        try rw [Exit.noGoto_ret]
        refine bodyPost_ret (results_cellT rfl _ _ w.heap.size 25 [.int .i64 0, .slice none 0 0, .slice none 0 0] _ rfl ?_ Try.underlying25 rfl (by kernel_rfl)) rfl ?_
        · simpa using ((hG8.set_ 0 (.int .i64 0)).set_ 1 (.slice none 0 0)).set_ 2 (.slice none 0 0)
        · exact ⟨⟨fun m hm => absurd hm (HNO.out m), fun _ => rfl⟩, ((hb9.setCell (Nat.le_refl _) _).setCell (Nat.le_refl _) _).setCell (Nat.le_refl _) _⟩

theorem parse_any (b : List UInt8) (A : Option Addr) (c : Nat) (w : World) (hA : RB w A b) (hc : b.length ≤ c) (hl : b.length ≤ 2000000) :
    Calls Try.prog 18 #[.slice A b.length c] w fun e w' => ParsePost w.heap.size b .nilIface (er 3) e w' ∧ Below w.heap.size w w' := by
  by_cases h7 : 7 ≤ b.length
  · by_cases hf : b.take 3 = [84, 80, 1]
    · exact parse_long b A c w hA hc hl h7 hf
    · refine (parse_short b A c w hA hc hl (.inr ⟨h7, hf⟩)).mono ?_
      rintro e w' ⟨rfl, hb⟩
      exact ⟨⟨fun m hm => absurd hm (not_frame_front hf m), fun _ => rfl⟩, hb⟩
  · refine (parse_short b A c w hA hc hl (.inl (by omega))).mono ?_
    rintro e w' ⟨rfl, hb⟩
    exact ⟨⟨fun m hm => absurd hm (not_frame_short (by omega) m), fun _ => rfl⟩, hb⟩
end Go.Proofs.Ytgmimindhhpkgaa
