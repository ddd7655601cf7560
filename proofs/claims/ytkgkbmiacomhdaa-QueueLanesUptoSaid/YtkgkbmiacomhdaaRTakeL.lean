/- The walk of the document's Lanes.Take. -/
import Derived.Test.YtkgkbmiacomhdaaTakeL
namespace Go.Proofs.Ytkgkbmiacomhdaa
set_option linter.unusedVariables false
set_option linter.unusedSimpArgs false
open Go.RowKit Go.Conc

theorem Nw.trans {w w' : World} {r r2 r3 : Value} (h : Nw w r r2) (h2 : Nw w' r2 r3) (hs : w.heap.size ≤ w'.heap.size) : Nw w r r3 := by
  rcases h2 with rfl | h2
  · exact h
  · exact .inr (fun b hb => by have := h2 b hb; omega)
/-- What the document's Take has done behind k rows. -/
def RTakeR (w : World) (base gm : Nat) (size : Int) (ru rp : Value) (us0 vs0 : List Value) (k : Nat) (v : Value) (wx : World) : Prop :=
  wx.ownsRow w.heap.size 42 1 v k ((us0 ++ vs0).take k) ∧ (∃ ru2 rp2, Rl wx base gm size ru2 rp2 (us0.drop k) (vs0.drop (k - us0.length)) ∧ Nw w ru ru2 ∧ Nw w rp rp2 ∧ ∀ b, v.ownBlock = some b → ru2.ownBlock ≠ some b ∧ rp2.ownBlock ≠ some b) ∧ w.grownBy wx (some gm)
set_option maxHeartbeats 1600000 in
theorem rtake_any (base gm : Nat) (size : Int) (ru rp : Value) (us0 vs0 : List Value) (n : Int) (w : World) (h : Rl w base gm size ru rp us0 vs0) (hbs : base ≤ w.heap.size) (hsu : ∀ v ∈ us0, IsSl v) (hsv : ∀ v ∈ vs0, IsSl v) (hlu : us0.length ≤ 5000) (hlv : vs0.length ≤ 5000) :
    Calls Try.prog 33 #[.pointer (some ⟨gm, 0, none⟩), .int .i64 n] w fun e w' => ∃ v, e = .returned v ∧ RTakeR w base gm size ru rp us0 vs0 (min n.toNat (us0 ++ vs0).length) v w' := by
  obtain ⟨i0, hi, hz0, hz1, hz2⟩ := info_parts info_row
  have H := Lib.hid h
  have HSU := Lib.hid hsu
  have HSV := Lib.hid hsv
  have HLU := Lib.hid hlu
  have HLV := Lib.hid hlv
  have hgl := h.blk.lt
  obtain ⟨L, hL⟩ : ∃ L, (us0 ++ vs0).length = L := ⟨_, rfl⟩
  have HL := Lib.hid hL
  have hl : L ≤ 10000 := by rw [← hL, List.length_append]; omega
  rw [hL]
  clear hsu hsv h hL hlu hlv
  go_enter Try.func33, Try.ntmps33
  go_wp2_with fail
  go_loopg [5] L (fun j out wr => ∃ (k : Nat), k + j = L ∧ (k = 0 ∨ (k : Int) ≤ n) ∧ Hid (RTakeR w base gm size ru rp us0 vs0 k out wr))
  case atStart => exact ⟨0, by omega, .inl rfl, by rw [List.take_zero]; exact World.ownsRow_nil _ _ _ _, ⟨ru, rp, by simpa using H.out, .inl rfl, .inl rfl, fun b hb => by cases hb⟩, World.grownBy.refl w _⟩
  case round =>
    obtain ⟨k, hkj, hkn, HR⟩ := hrel
    obtain ⟨hown, ⟨ru1, rp1, hla, hn1, hn2, hdj⟩, hgw⟩ := HR.out
    obtain ⟨A, c, rfl, hkc, hrc, -⟩ := own_form hown
    have HOWN := Lib.hid hown
    have HRC := Lib.hid hrc
    have HN1 := Lib.hid hn1
    have HN2 := Lib.hid hn2
    have hsz := hgw.size
    have HDJ := Lib.hid hdj
    clear hown hrc hn1 hn2 hdj
    have HPD := Lib.hid (fun (us2 vs2 : List Value) (x : Value) (b : Bool) (h : Popped (us0.drop k) (vs0.drop (k - us0.length)) x b us2 vs2) => popped_drop h)
    have HBN := Lib.hid (@both_nil us0 vs0 k)
    have HLU2 : Hid ((us0.drop k).length ≤ 5000) := by show _ ≤ _; rw [List.length_drop]; have := HLU.out; omega
    have HLV2 : Hid ((vs0.drop (k - us0.length)).length ≤ 5000) := by show _ ≤ _; rw [List.length_drop]; have := HLV.out; omega
    have HSU2 : Hid (∀ v ∈ us0.drop k, IsSl v) := fun v hv => HSU.out v (List.mem_of_mem_drop hv)
    have HSV2 : Hid (∀ v ∈ vs0.drop (k - us0.length), IsSl v) := fun v hv => HSV.out v (List.mem_of_mem_drop hv)
    obtain ⟨us', hus'⟩ : ∃ u, us0.drop k = u := ⟨_, rfl⟩
    obtain ⟨vs', hvs'⟩ : ∃ v, vs0.drop (k - us0.length) = v := ⟨_, rfl⟩
    have HUS := Lib.hid hus'
    have HVS := Lib.hid hvs'
    rw [hus'] at hla HLU2 HSU2
    rw [hvs'] at hla HLV2 HSV2
    clear hus' hvs'
    by_cases hkn2 : (k : Int) < n
    · by_cases hn : us' = [] ∧ vs' = []
      · obtain ⟨rfl, rfl⟩ := hn
        have hkl : k = L := by rw [← HL.out]; exact HBN.out HUS.out HVS.out (by rw [HL.out]; omega)
        have HM : Hid (min n.toNat L = k) := by show _ = _; omega
        clear hkl
        go_wp2_with fail
        (with_reducible refine (rlget_none base gm size ru1 rp1 wr hla).mono ?_)
        rintro e w1 ⟨rfl, rfl⟩
        go_wp2_with fail
        go_ret
        exact ⟨_, rfl, by rw [HM.out]; exact HR.out⟩
      · obtain ⟨x, hx⟩ := head_or hn
        have HX := Lib.hid hx
        have hxm := head_mem hx HUS.out.symm HVS.out.symm
        obtain ⟨xA, xn, xc, rfl⟩ : IsSl x := by
          rcases List.mem_append.1 hxm with h | h
          · exact HSU.out x h
          · exact HSV.out x h
        clear hn hx hxm
        have hbs2 : base ≤ wr.heap.size := by omega
        go_wp2_with fail
        (with_reducible refine (rlget_some base gm size ru1 rp1 _ us' vs' wr hla hbs2 HX.out HSU2.out HSV2.out HLU2.out HLV2.out).mono ?_)
        rintro e w1 ⟨b, us2, vs2, ru2, rp2, rfl, hla2, hpop, hg2, hm1, hm2⟩
        have hpp := hpop
        rw [← HUS.out, ← HVS.out] at hpp
        obtain ⟨p1, p2, p3, p4⟩ := HPD.out _ _ _ _ hpp
        have HP1 := Lib.hid p1
        have HP2 := Lib.hid p2
        have HP3 := Lib.hid p3
        rw [HL.out] at p4
        obtain ⟨j, hj⟩ : ∃ j, gk = j + 1 := ⟨gk - 1, by omega⟩
        subst hj
        have hs1 := hg2.size
        have HNA := Lib.hid (HN1.out.trans hm1 hsz)
        have HNB := Lib.hid (HN2.out.trans hm2 hsz)
        have hown1 := own_gm HOWN.out hla.blk (by decide) hg2
        have hown2 := hown1.alloc (.cells #[.slice xA xn xc] 42)
        have hone : ∀ u ∈ [Value.slice xA xn xc], u.oneCell' = true := fun u hu => by simp only [List.mem_singleton] at hu; rw [hu]; rfl
        have hbs3 : w.heap.size ≤ (w1.alloc (.cells #[.slice xA xn xc] 42)).heap.size := by simp; omega
        have HOL : Hid (∀ b, (Value.slice A k c).ownBlock = some b → w.heap.size ≤ b) := fun b hb => (own_lt HOWN.out hb).1
        have HG12 := Lib.hid (hgw.trans hg2)
        have HDJ2 : Hid (∀ b, (Value.slice A k c).ownBlock = some b → ru2.ownBlock ≠ some b ∧ rp2.ownBlock ≠ some b) := fun b hb => by
          have hbl := (own_lt HOWN.out hb).2
          obtain ⟨d1, d2⟩ := HDJ.out b hb
          refine ⟨fun e => ?_, fun e => ?_⟩
          · rcases hm1 with rfl | h
            · exact d1 e
            · have := h b e; omega
          · rcases hm2 with rfl | h
            · exact d2 e
            · have := h b e; omega
        clear hpop hpp p1 p2 p3 hm1 hm2 hown1
        go_wp2_with (at_builtin; refine wl_app _ rfl (.tmp 22) (.tmp 24) 33 rfl w.heap.size 42 i0 (.slice none 0 0) 1 24 Try.underlying33 hi hz0 hz1 hz2 rfl (by omega) _ _ _ rfl hown2 (some ⟨w1.heap.size, 0, none⟩) 1 1 [.slice xA xn xc] rfl rfl (rc_new w1 [.slice xA xn xc] 42) hone (by unfold maxLen; omega) (by omega) hbs3 ?_)
        intro v3 w3 hown3 hg3 hat3
        have G : Hid (RTakeR w base gm size ru rp us0 vs0 (k + 1) v3 w3) := by
          have kp : ∀ (r : Value) (m : List Value), w1.ownsRow base 42 1 r m.length m → (∀ b, (Value.slice A k c).ownBlock = some b → r.ownBlock ≠ some b) → w3.ownsRow base 42 1 r m.length m := fun r m ho hd => (ho.alloc _).kept hg3 (by
            cases hr : r.ownBlock with
            | none => exact .inl rfl
            | some b => exact .inr (fun e => hd b e.symm hr))
          refine ⟨by rw [HP3.out]; exact hown3, ⟨ru2, rp2, ?_, HNA.out, HNB.out, fun b hb => ?_⟩, ?_⟩
          · rw [← HP1.out, ← HP2.out]
            refine ⟨((hla2.blk.alloc _).grown hg3 (fun e => by have := HOL.out gm e.symm; omega)), kp _ _ hla2.u (fun b hb => (HDJ2.out b hb).1), kp _ _ hla2.p (fun b hb => (HDJ2.out b hb).2), hla2.dj⟩
          · rcases hat3 with e | e
            · rw [e] at hb; exact HDJ2.out b hb
            · rw [e] at hb
              injection hb with hb
              have h1 : ∀ b', ru2.ownBlock = some b' → b' < w1.heap.size := fun b' h => (own_lt hla2.u h).2
              have h2 : ∀ b', rp2.ownBlock = some b' → b' < w1.heap.size := fun b' h => (own_lt hla2.p h).2
              have hsa : (w1.alloc (.cells #[.slice xA xn xc] 42)).heap.size = w1.heap.size + 1 := by simp
              exact ⟨fun h => by have := h1 b h; omega, fun h => by have := h2 b h; omega⟩
          · have g := HG12.out
            have hsw := g.size
            exact ⟨hg3.os.trans g.os, hg3.tape.trans g.tape, hg3.output.trans g.output, by have := hg3.size; omega, fun q hq hne => (hg3.block q (by omega) (fun e => by have := HOL.out q e.symm; omega)).trans ((Below.heap_alloc w1 _ q (by omega)).trans (g.block q hq hne))⟩
        clear hown3 hg3 hat3 hone hbs3 hown2
        go_wp2_with fail
        go_roundg j
        case measure => omega
        exact ⟨k + 1, by omega, .inr (by omega), G⟩
    · have HM : Hid (min n.toNat L = k) := by show _ = _; omega
      go_wp2_with fail
      go_ret
      exact ⟨_, rfl, by rw [HM.out]; exact HR.out⟩
end Go.Proofs.Ytkgkbmiacomhdaa
