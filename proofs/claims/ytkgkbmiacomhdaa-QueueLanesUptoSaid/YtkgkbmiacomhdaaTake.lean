/- The walk of Lanes.Take. -/
import Derived.Test.YtkgkbmiacomhdaaLanes
namespace Go.Proofs.Ytkgkbmiacomhdaa
set_option linter.unusedVariables false
set_option linter.unusedSimpArgs false
open Go.RowKit Go.Conc

/-- What taking the first k does. -/
def TakeR (B : Nat) (w : World) (gl gu cu gp cp cap : Nat) (all : List Value) (k : Nat) (v : Value) (wx : World) : Prop :=
  ∃ us vs, wx.ownsRow w.heap.size 42 1 v k (all.take k) ∧ La wx gl gu cu gp cp cap us vs ∧ us ++ vs = all.drop k ∧ ChO w wx ∧ Below B w wx
theorem drop_cons {α : Type} {l : List α} {k : Nat} {x : α} {r : List α} (h : l.drop k = x :: r) : l.drop (k + 1) = r ∧ l.take (k + 1) = l.take k ++ [x] ∧ k < l.length := by
  have hlt : k < l.length := by
    rcases Nat.lt_or_ge k l.length with h1 | h1
    · exact h1
    · rw [List.drop_eq_nil_of_le h1] at h; cases h
  rw [List.drop_eq_getElem_cons hlt] at h
  injection h with h1 h2
  exact ⟨h2, by rw [List.take_succ_eq_append_getElem hlt, h1], hlt⟩
theorem took_grown {w w' : World} {gl gu cu gp cp cap : Nat} {b : Bool} {us vs : List Value} (h : La w gl gu cu gp cp cap us vs) (hg : w.grownBy w' (some (if b then cu else cp))) : ChO w w' := by
  cases b
  · exact ChO.chan h.p.2 hg
  · exact ChO.chan h.u.2 hg

set_option maxHeartbeats 1600000 in
theorem take_any (B gl gu cu gp cp cap : Nat) (us vs all : List Value) (n : Int) (w : World) (h : La w gl gu cu gp cp cap us vs) (hB : LaB B gl gu cu gp cp) (hbs : B ≤ w.heap.size) (ha : us ++ vs = all) (h1 : ∀ v ∈ all, IsSl v) (hl : all.length ≤ 1000000) :
    Calls Try.prog 29 #[.pointer (some ⟨gl, 0, none⟩), .int .i64 n] w fun e w' => ∃ v, e = .returned v ∧ TakeR B w gl gu cu gp cp cap all (min n.toNat all.length) v w' := by
  obtain ⟨i0, hi, hz0, hz1, hz2⟩ := info_parts info_row
  have HLT := Lib.hid h.lt
  have H1 := Lib.hid h1
  have H := Lib.hid h
  have HB := Lib.hid hB
  have HA := Lib.hid ha
  clear h1 h hB ha
  go_enter Try.func29, Try.ntmps29
  go_wp2_with fail
  go_step3
  go_wp2_with fail
  go_step3
  go_wp2_with fail
  go_loopg [5] all.length (fun j out wr => ∃ (k : Nat), k + j = all.length ∧ (k = 0 ∨ (k : Int) ≤ n) ∧ Hid (TakeR B w gl gu cu gp cp cap all k out wr))
  case atStart => exact ⟨0, by omega, .inl rfl, us, vs, by rw [List.take_zero]; exact World.ownsRow_nil _ _ _ _, H.out, by rw [List.drop_zero]; exact HA.out, ChO.refl w, Below.refl _ _⟩
  case round =>
    obtain ⟨k, hkj, hkn, HR⟩ := hrel
    obtain ⟨us', vs', hown, hla, hall, hch, hbel⟩ := HR.out
    obtain ⟨A, c, rfl, hkc, hrc, -⟩ := own_form hown
    have HOWN := Lib.hid hown
    have HALL := Lib.hid hall
    have HRC := Lib.hid hrc
    clear hown hall hrc
    by_cases hkn2 : (k : Int) < n
    · cases hd : all.drop k with
      | nil =>
        have hkl : k = all.length := by
          have := congrArg List.length hd
          simp at this
          omega
        have hus : us' = [] ∧ vs' = [] := by
          have := HALL.out
          rw [hd] at this
          exact List.append_eq_nil_iff.1 this
        obtain ⟨rfl, rfl⟩ := hus
        have HM : Hid (min n.toNat all.length = k) := by show _ = _; omega
        clear hd hkl
        go_wp2_with fail
        (with_reducible refine (lget_none gl gu cu gp cp cap wr hla).mono ?_)
        rintro e w1 ⟨rfl, rfl⟩
        go_wp2_with fail
        try rw [Exit.noGoto_ret]
        go_ret
        exact ⟨_, rfl, by rw [HM.out]; exact HR.out⟩
      | cons x rest =>
        obtain ⟨hd1, hd2, hd3⟩ := drop_cons hd
        have HE : Hid (us' ++ vs' = x :: rest) := by show _ = _; rw [HALL.out, hd]
        have HD1 := Lib.hid hd1
        have HD2 := Lib.hid hd2
        obtain ⟨xA, xn, xc, rfl⟩ := H1.out x (List.mem_of_mem_drop (by rw [hd]; simp))
        clear hd hd1 hd2
        obtain ⟨j, hj⟩ : ∃ j, gk = j + 1 := ⟨gk - 1, by omega⟩
        subst hj
        go_wp2_with fail
        (with_reducible refine (lget_some gl gu cu gp cp cap _ us' vs' rest wr hla HE.out).mono ?_)
        rintro e w1 ⟨b, us2, vs2, rfl, hla2, hall2, hg2⟩
        have hch2 := took_grown hla hg2
        have hbel2 : Below B w w1 := hbel.grown hg2 (by have := hch.size; omega) (fun q hq => by injection hq with hq; subst hq; have := HB.out; unfold LaB at this; cases b <;> simp <;> omega)
        have hown2 := (own_cho HOWN.out hch2).alloc (.cells #[.slice xA xn xc] 42)
        have HALL2 := Lib.hid hall2
        have hone : ∀ u ∈ [Value.slice xA xn xc], u.oneCell' = true := fun u hu => by simp only [List.mem_singleton] at hu; rw [hu]; rfl
        have hbs2 : w.heap.size ≤ (w1.alloc (.cells #[.slice xA xn xc] 42)).heap.size := by have := hch.size; have := hch2.size; simp; omega
        have HOL : Hid (∀ b, (Value.slice A k c).ownBlock = some b → w.heap.size ≤ b) := fun b hb => (own_lt HOWN.out hb).1
        clear hall2 hg2
        go_wp2_with (at_builtin; refine wl_app _ rfl (.tmp 21) (.tmp 23) 33 rfl w.heap.size 42 i0 (.slice none 0 0) 1 24 Try.underlying33 hi hz0 hz1 hz2 rfl (by omega) _ _ _ rfl hown2 (some ⟨w1.heap.size, 0, none⟩) 1 1 [.slice xA xn xc] rfl rfl (rc_new w1 [.slice xA xn xc] 42) hone (by unfold maxLen; omega) (by omega) hbs2 ?_)
        intro v3 w3 hown3 hg3 hat3
        have G : Hid (TakeR B w gl gu cu gp cp cap all (k + 1) v3 w3) := by
          refine ⟨us2, vs2, by rw [HD2.out]; exact hown3, ?_, by rw [HALL2.out, HD1.out], ?_, ?_⟩
          · exact (hla2.kept ((Below.refl _ w1).alloc (Nat.le_refl _) _)).fresh hg3 HLT.out HOL.out
          · exact ((hch.trans hch2).trans (ChO.below ((Below.refl _ w1).alloc (Nat.le_refl _) _))).fresh hg3 HOL.out
          · exact (hbel2.alloc (by have := hbel2.size; have := hch.size; have := hch2.size; omega) _).grown hg3 (by have := hch.size; have := hch2.size; simp; omega) (fun q hq => by have := HOL.out q hq; omega)
        clear hown3 hg3 hat3 hone hbs2 hown2
        go_wp2_with fail
        go_roundg j
        case measure => omega
        exact ⟨k + 1, by omega, .inr (by omega), G⟩
    · have HM : Hid (min n.toNat all.length = k) := by show _ = _; omega
      go_wp2_with fail
      try rw [Exit.noGoto_ret]
      go_ret
      exact ⟨_, rfl, by rw [HM.out]; exact HR.out⟩
end Go.Proofs.Ytkgkbmiacomhdaa
