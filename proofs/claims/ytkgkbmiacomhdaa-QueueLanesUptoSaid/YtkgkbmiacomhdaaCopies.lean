/- The walks of copies and kept. -/
import Derived.Test.YtkgkbmiacomhdaaRefQu
import Derived.Test.YtkgkbmiacomhdaaOver
namespace Go.Proofs.Ytkgkbmiacomhdaa
set_option linter.unusedVariables false
set_option linter.unusedSimpArgs false
open Go.RowKit Go.Conc

/-- Copies with marks: where they lie. -/
structure CpS (lo hi : Nat) (cs : List Value) (ps : List (List UInt8)) : Prop where
  len : cs.length = ps.length
  form : ∀ (j : Nat) v x, cs[j]? = some v → ps[j]? = some x → ∃ g, v = .slice (some ⟨g, 0, none⟩) x.length (x.length + 2) ∧ lo ≤ g ∧ g < hi
  dis : ∀ (i j g g' n n' c c' : Nat), i < j → cs[i]? = some (.slice (some ⟨g, 0, none⟩) n c) → cs[j]? = some (.slice (some ⟨g', 0, none⟩) n' c') → g ≠ g'
/-- What they hold, from the k-th on. -/
def CpB (w : World) (cs : List Value) (ps : List (List UInt8)) (k : Nat) : Prop := ∀ (j g n c : Nat) x, k ≤ j → cs[j]? = some (.slice (some ⟨g, 0, none⟩) n c) → ps[j]? = some x → Blk w g 5 ((marked x).map bv)
theorem CpS.nil (lo hi : Nat) : CpS lo hi [] [] := ⟨rfl, fun j v x h => by simp at h, fun i j g g' n n' c c' _ h => by simp at h⟩
theorem CpB.nil (w : World) (k : Nat) : CpB w [] [] k := fun j g n c x _ h => by simp at h
theorem CpS.snoc {lo hi hi2 g : Nat} {cs : List Value} {ps : List (List UInt8)} {x : List UInt8} (h : CpS lo hi cs ps) (h1 : hi ≤ g) (h2 : g < hi2) (hl : lo ≤ hi) : CpS lo hi2 (cs ++ [.slice (some ⟨g, 0, none⟩) x.length (x.length + 2)]) (ps ++ [x]) := by
  have hln := h.len
  refine ⟨by simp [h.len], fun j v y hv hy => ?_, fun i j a b n n' c c' hij hu hv => ?_⟩
  · by_cases hj : j < cs.length
    · rw [List.getElem?_append_left hj] at hv
      rw [List.getElem?_append_left (by omega)] at hy
      obtain ⟨g', e, h3, h4⟩ := h.form j v y hv hy
      exact ⟨g', e, h3, by omega⟩
    · rw [List.getElem?_append_right (by omega)] at hv
      rw [List.getElem?_append_right (by omega), ← hln] at hy
      have hj0 : j - cs.length = 0 := by have := (List.getElem?_eq_some_iff.1 hv).1; simp at this; omega
      rw [hj0] at hv hy
      simp at hv hy
      subst hv hy
      exact ⟨g, rfl, by omega, h2⟩
  · by_cases hj : j < cs.length
    · rw [List.getElem?_append_left hj] at hv
      rw [List.getElem?_append_left (by omega)] at hu
      exact h.dis i j a b n n' c c' hij hu hv
    · rw [List.getElem?_append_right (by omega)] at hv
      have hj0 : j - cs.length = 0 := by have := (List.getElem?_eq_some_iff.1 hv).1; simp at this; omega
      rw [hj0] at hv
      simp at hv
      have hi' : i < cs.length := by omega
      rw [List.getElem?_append_left hi'] at hu
      obtain ⟨g', e, h3, h4⟩ := h.form i _ _ hu (List.getElem?_eq_getElem (show i < ps.length by omega))
      injection e with e
      injection e with e
      injection e with e
      omega
theorem CpB.snoc {w : World} {g k : Nat} {cs : List Value} {ps : List (List UInt8)} {x : List UInt8} (h : CpB w cs ps k) (hl : cs.length = ps.length) (hb : Blk w g 5 ((marked x).map bv)) : CpB w (cs ++ [.slice (some ⟨g, 0, none⟩) x.length (x.length + 2)]) (ps ++ [x]) k := by
  intro j a n c y hk hv hy
  by_cases hj : j < cs.length
  · rw [List.getElem?_append_left hj] at hv
    rw [List.getElem?_append_left (by omega)] at hy
    exact h j a n c y hk hv hy
  · rw [List.getElem?_append_right (by omega)] at hv
    rw [List.getElem?_append_right (by omega), ← hl] at hy
    have hj0 : j - cs.length = 0 := by have := (List.getElem?_eq_some_iff.1 hv).1; simp at this; omega
    rw [hj0] at hv hy
    simp at hv hy
    obtain ⟨rfl, _, _⟩ := hv
    subst hy
    exact hb
theorem CpB.below {w w' : World} {cs : List Value} {ps : List (List UInt8)} {k : Nat} (h : CpB w cs ps k) (hb : Below w.heap.size w w') : CpB w' cs ps k := fun j g n c x hk hv hx => (h j g n c x hk hv hx).kept hb
theorem blk_own_ne {w : World} {base g n : Nat} {e t : TypeId} {v : Value} {xs cs : List Value} (h : w.ownsRow base e 1 v n xs) (hb : Blk w g t cs) (hne : e ≠ t) : some g ≠ v.ownBlock := fun e' => own_blk_ne h hb hne g e'.symm rfl
/-- Copies read as rows. -/
theorem cp_vals {w : World} {lo hi : Nat} {cs : List Value} {ps : List (List UInt8)} (h : CpS lo hi cs ps) (hb : CpB w cs ps 0) : RVs w cs ps :=
  ⟨h.len, fun j v x hv hx => by
    obtain ⟨g, rfl, _, _⟩ := h.form j v x hv hx
    exact ⟨_, _, rfl, by omega, marked_rb (hb j g _ _ x (Nat.zero_le _) hv hx)⟩⟩

set_option maxHeartbeats 800000 in
theorem copies_any (ps : List (List UInt8)) (A : Option Addr) (c : Nat) (w : World) (hA : RP w A ps) (hl : ps.length ≤ 4000000) (hls : ∀ x ∈ ps, x.length ≤ 4000000) :
    Calls Try.prog 12 #[.slice A ps.length c] w fun e w' => ∃ v cs, e = .returned v ∧ w'.ownsRow w.heap.size 42 1 v ps.length cs ∧ CpS w.heap.size w'.heap.size cs ps ∧ CpB w' cs ps 0 ∧ Below w.heap.size w w' := by
  obtain ⟨i0, hi, hz0, hz1, hz2⟩ := info_parts info_row
  have HLS := Lib.hid hls
  clear hls
  go_enter Try.func12, Try.ntmps12
  go_wp2_with fail
  go_loopw [3, 10] (fun out i wr => ∃ (k : Nat) (cs : List Value), k ≤ ps.length ∧ i = .int .i64 (k : Int) ∧ Hid (wr.ownsRow w.heap.size 42 1 out k cs) ∧ Hid (CpS w.heap.size wr.heap.size cs (ps.take k)) ∧ Hid (CpB wr cs (ps.take k) 0) ∧ Below w.heap.size w wr) (fun _ i _ => ps.length - (intOf i).toNat)
  case atStart => exact ⟨0, [], Nat.zero_le _, rfl, own_empty w w.heap.size 42 w.heap.size rfl (Nat.le_refl _), CpS.nil _ _, CpB.nil _ _, (Below.refl _ w).alloc (Nat.le_refl _) _⟩
  case round =>
    obtain ⟨k, cs, hk, rfl, HO, HS, HB, hb⟩ := hrel
    by_cases hlt : k < ps.length
    · obtain ⟨ad, B, cb, rfl, hcell, hcb, hB⟩ := (hA.below hb).at_ k hlt
      have hxl := HLS.out ps[k] (List.getElem_mem hlt)
      have HT := Lib.hid (take_snoc ps k hlt)
      generalize ps[k] = x at *
      have hbs := hb.size
      go_wp2_with fail
      (with_reducible refine (copy_any x B cb wr hB hcb hxl).mono ?_)
      rintro e w1 ⟨g, rfl, hg, hbk, hb1⟩
      have hs1 := hb1.size
      have hgl := hbk.lt
      have hown := (own_below HO.out hb1).alloc (.cells #[.slice (some ⟨g, 0, none⟩) x.length (x.length + 2)] 42)
      have hone : ∀ u ∈ [Value.slice (some ⟨g, 0, none⟩) x.length (x.length + 2)], u.oneCell' = true := fun u hu => by simp only [List.mem_singleton] at hu; rw [hu]; rfl
      clear hcell
      go_wp2_with (at_builtin; refine wl_app _ rfl (.tmp 16) (.tmp 18) 33 rfl w.heap.size 42 i0 (.slice none 0 0) 1 24 Try.underlying33 hi hz0 hz1 hz2 rfl (by omega) _ k cs rfl hown (some ⟨w1.heap.size, 0, none⟩) 1 1 [.slice (some ⟨g, 0, none⟩) x.length (x.length + 2)] rfl rfl (rc_new w1 [.slice (some ⟨g, 0, none⟩) x.length (x.length + 2)] 42) hone (by unfold maxLen; omega) (by omega) (by simp; omega) ?_)
      intro v2 w2 hown2 hg2 hat2
      have hal : Below w1.heap.size w1 (w1.alloc (.cells #[.slice (some ⟨g, 0, none⟩) x.length (x.length + 2)] 42)) := (Below.refl _ w1).alloc (Nat.le_refl _) _
      have hb2 : Below w.heap.size w w2 := (below_al (below_call hb hb1) _).grown hg2 (by simp; omega) (fun q hq => (own_lt hown hq).1)
      have hCB : CpB (w1.alloc (.cells #[.slice (some ⟨g, 0, none⟩) x.length (x.length + 2)] 42)) (cs ++ [.slice (some ⟨g, 0, none⟩) x.length (x.length + 2)]) (ps.take k ++ [x]) 0 := ((HB.out.below hb1).below hal).snoc HS.out.len (hbk.alloc _)
      have G2 : Hid (CpB w2 (cs ++ [.slice (some ⟨g, 0, none⟩) x.length (x.length + 2)]) (ps.take (k + 1)) 0) := by
        show CpB _ _ _ _
        rw [HT.out]
        exact fun j a n c y hk hv hy => (hCB j a n c y hk hv hy).grown hg2 (blk_own_ne hown (hCB j a n c y hk hv hy) (by decide))
      have G1 : Hid (CpS w.heap.size w2.heap.size (cs ++ [.slice (some ⟨g, 0, none⟩) x.length (x.length + 2)]) (ps.take (k + 1))) := by
        show CpS _ _ _ _
        rw [HT.out]
        exact HS.out.snoc hg (by have := hg2.size; simp at this; omega) hbs
      have G0 := Lib.hid hown2
      clear hown2 hg2 hat2 hCB hown hone
      go_wp2_with fail
      go_roundw
      case rel => exact ⟨k + 1, _, by omega, by go_num, G0, G1, G2, hb2⟩
      case measure => simp [intOf]; omega
    · obtain rfl : k = ps.length := by omega
      have h1 := HS.out
      have h2 := HB.out
      rw [List.take_length] at h1 h2
      have G1 := Lib.hid h1
      have G2 := Lib.hid h2
      clear h1 h2
      go_wp2_with fail
      go_ret
      exact ⟨_, cs, rfl, HO.out, G1.out, G2.out, hb⟩
set_option maxHeartbeats 400000 in
theorem kept_same (xs : List UInt8) (g : Nat) (A : Option Addr) (c : Nat) (w : World) (hA : RB w A xs) (hg : Blk w g 5 ((marked xs).map bv)) (hn : xs.length ≤ 4000000) :
    Calls Try.prog 36 #[.slice (some ⟨g, 0, none⟩) xs.length (xs.length + 2), .slice A xs.length c] w fun e w' => e = .returned (.bool true) ∧ w' = w := by
  have hX : RB w (some ⟨g, 0, none⟩) xs := marked_rb hg
  have s1 := run_str (P := Try.prog) w _ _ _ Try.underlying42 Try.underlying5 Try.underlying9 _ _ (xs.length + 2) _ hX rfl
  have s2 := run_str (P := Try.prog) w _ _ _ Try.underlying42 Try.underlying5 Try.underlying9 _ _ c _ hA rfl
  have c1 : w.cell? ⟨g, xs.length, none⟩ = some (.int .u8 165) := by rw [hg.cell]; simp [marked]
  have c2 : w.cell? ⟨g, xs.length + 1, none⟩ = some (.int .u8 90) := by rw [hg.cell]; simp [marked]
  go_enter Try.func36, Try.ntmps36
  go_wp2
  go_ret
  exact ⟨rfl, rfl⟩
theorem cell_blk_ne {w : World} {g : Nat} {p : Addr} {xs : List UInt8} {A : Option Addr} {n c : Nat} (h : w.cell? p = some (.slice A n c)) (hb : Blk w g 5 (xs.map bv)) : p.block ≠ g := by
  obtain ⟨b, off, x⟩ := p
  rintro rfl
  unfold Blk at hb
  cases x with
  | none =>
    rw [cell_of_row w b off _ _ _ hb] at h
    simp [List.getElem?_map] at h
  | some f => simp [World.cell?, hb] at h
set_option maxHeartbeats 1600000 in
theorem kept_all (w0 : World) (lo hi_ : Nat) (ps : List (List UInt8)) (cs : List Value) (A C : Option Addr) (c d : Nat) (w : World) (hA : RP w0 A ps) (hw : Below w0.heap.size w0 w) (hlo : w0.heap.size ≤ lo) (hC : RC w C cs) (hS : CpS lo hi_ cs ps) (hB : CpB w cs ps 0) (hl : ps.length ≤ 4000000) (hls : ∀ x ∈ ps, x.length ≤ 4000000) :
    Calls Try.prog 15 #[.slice C ps.length d, .slice A ps.length c] w fun e w' => e = .returned (.bool true) ∧ Chg w w' (fun b => lo ≤ b ∧ b < hi_) := by
  have HLS := Lib.hid hls
  have HS := Lib.hid hS
  have HB0 := Lib.hid hB
  have HC0 := Lib.hid hC
  clear hls hS hB hC
  go_enter Try.func15, Try.ntmps15
  go_wp2_with fail
  go_loopw [8] (fun i wr => ∃ k : Nat, k ≤ ps.length ∧ i = .int .i64 (k : Int) ∧ Hid (RC wr C cs) ∧ Hid (CpB wr cs ps k) ∧ Hid (Chg w wr (fun b => lo ≤ b ∧ b < hi_))) (fun i _ => ps.length - (intOf i).toNat)
  case atStart => exact ⟨0, Nat.zero_le _, rfl, HC0, HB0, Chg.refl _ _⟩
  case round =>
    obtain ⟨k, hk, rfl, HC, HB, HG⟩ := hrel
    by_cases hlt : k < ps.length
    · have hbw : Below w0.heap.size w0 wr := hw.trans (HG.out.below hw.size (fun b hb => by omega))
      obtain ⟨ad, B, cb, rfl, hcell, hcb, hX⟩ := (hA.below hbw).at_ k hlt
      have hxl := HLS.out ps[k] (List.getElem_mem hlt)
      have hkc : k < cs.length := by rw [HS.out.len]; exact hlt
      have hcsk : cs[k]? = some cs[k] := List.getElem?_eq_getElem hkc
      have hpsk : ps[k]? = some ps[k] := List.getElem?_eq_getElem hlt
      obtain ⟨g, hge, hg1, hg2⟩ := HS.out.form k _ _ hcsk hpsk
      obtain ⟨cd, rfl, hcc⟩ := HC.out k _ hcsk
      rw [hge] at hcc hcsk
      have hbk := HB.out k g _ _ _ (Nat.le_refl _) hcsk hpsk
      have HCK := Lib.hid hcsk
      clear hcsk hpsk hge
      generalize ps[k] = x at *
      have hki : (k : Int) < (ps.length : Int) := by omega
      have hk0 : (0 : Int) ≤ (k : Int) := by omega
      go_wp2_with fail
      have hXn : ∀ m, RB (wr.drewN m) B x := fun m => hX.drewN m
      have hbn : ∀ m, Blk (wr.drewN m) g 5 ((marked x).map bv) := fun m => hbk.drewN m
      go_quiet ((go_at_call 36; exact Calls.quiet_of_same (kept_same x g B cb _ (hXn _) (hbn _) hxl)))
      go_wp2_with fail
      (with_reducible refine (over_any (marked x) g (x.length + 2) x.length (by simp [marked]) hxl _ (hbn _)).mono ?_)
      rintro e w1 ⟨⟨v, rfl⟩, hgr⟩
      have hgr2 : wr.grownBy w1 (some g) := ⟨hgr.os, hgr.tape, hgr.output, hgr.size, hgr.block⟩
      have G1 : Hid (RC w1 (some cd) cs) := by
        refine HC.out.grown hgr2 (fun ad e => ?_)
        injection e with e
        subst e
        have := cell_blk_ne hcc hbk
        rw [add_block] at this
        simpa using this
      have G2 : Hid (CpB w1 cs ps (k + 1)) := fun j a n c y hj hv hy => (HB.out j a n c y (by omega) hv hy).grown hgr2 (by
        have := HS.out.dis k j g a _ _ _ _ (by omega) HCK.out hv
        simp; omega)
      have G3 : Hid (Chg w w1 (fun b => lo ≤ b ∧ b < hi_)) := HG.out.trans (Chg.of hgr2 (fun b hb => by injection hb with hb; omega))
      clear hgr hgr2 hXn hbn hcc hcell
      go_wp2_with fail
      go_roundw
      case rel => exact ⟨k + 1, by omega, by go_num, G1, G2, G3⟩
      case measure => simp [intOf]; omega
    · go_wp2_with fail
      go_ret
      exact ⟨rfl, HG.out⟩

set_option maxHeartbeats 800000 in
theorem over_own (xs : List UInt8) (base : Nat) (A : Option Addr) (n c : Nat) (w : World) (hn : n ≤ 4000000) (hO : w.ownsRow base 5 1 (.slice A n c) n (xs.map bv)) :
    Calls Try.prog 18 #[.slice A n c] w fun e w' => (∃ v, e = .returned v) ∧ w.grownBy w' (Value.slice A n c).ownBlock := by
  go_enter Try.func18, Try.ntmps18
  go_wp2_with fail
  go_loopw [5] (fun i wr => ∃ (k : Nat) (ys : List UInt8), k ≤ n ∧ i = .int .i64 (k : Int) ∧ Hid (wr.ownsRow base 5 1 (.slice A n c) n (ys.map bv)) ∧ Hid (w.grownBy wr (Value.slice A n c).ownBlock)) (fun i _ => n - (intOf i).toNat)
  case atStart => exact ⟨0, xs, Nat.zero_le _, rfl, hO, World.grownBy.refl w _⟩
  case round =>
    obtain ⟨k, ys, hk, rfl, HO, HG⟩ := hrel
    by_cases hlt : k < n
    · obtain ⟨g, c9, he, hge, hgl⟩ := own_headE HO.out (by omega)
      injection he with he1 he2 he3
      subst he1 he3
      have cc := own_cellE HO.out k hlt
      have hyl : ys.length = n := by have := HO.out.1; simp at this; omega
      have hkl : k < ys.length := by omega
      rw [List.getElem?_map, List.getElem?_eq_getElem hkl] at cc
      have cf := HO.out.frozenAt k
      have HST : Hid ((wr.setCell ⟨g, k, none⟩ (bv (ys[k] ^^^ 255))).ownsRow base 5 1 (.slice (some ⟨g, 0, none⟩) n c) n ((ys.set k (ys[k] ^^^ 255)).map bv)) := by
        have h := (HO.out.stored k (bv (ys[k] ^^^ 255))).1
        rw [← List.map_set] at h
        exact h
      have hx : bits .xor .u8 (ys[k].toNat : Int) 255 = ((ys[k] ^^^ 255).toNat : Int) := u8_xorB ys[k] 255
      simp only [Option.map_some, bv] at cc
      generalize ys[k] = y at *
      generalize hz : y ^^^ 255 = z at *
      clear hz
      go_wp2
      go_roundw
      case rel => exact ⟨k + 1, _, by omega, by go_num, HST.out, HG.out.trans (grown_set wr g k _)⟩
      case measure => simp [intOf]; omega
    · go_wp2
      refine bodyPost_end (results_none rfl _ _ _) rfl ?_
      exact ⟨⟨_, rfl⟩, HG.out⟩
theorem over_nil (w : World) : Calls Try.prog 18 #[.slice none 0 0] w fun e w' => (∃ v, e = .returned v) ∧ w' = w := by
  go_enter Try.func18, Try.ntmps18
  go_wp2_with fail
  refine wp_loop_rounds 1 ?_
  rw [rounds_succ]
  go_wp2
  refine bodyPost_end (results_none rfl _ _ _) rfl ?_
  exact ⟨⟨_, rfl⟩, rfl⟩
end Go.Proofs.Ytkgkbmiacomhdaa
