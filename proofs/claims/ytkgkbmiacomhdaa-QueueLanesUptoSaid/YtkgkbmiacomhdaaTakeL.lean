/- The walk of Lanes.Take, told by lanes; the document's lanes: Get, Take. -/
import Derived.Test.YtkgkbmiacomhdaaTake
import Derived.Test.YtkgkbmiacomhdaaRefLn
namespace Go.Proofs.Ytkgkbmiacomhdaa
set_option linter.unusedVariables false
set_option linter.unusedSimpArgs false
open Go.RowKit Go.Conc

/-- The first of two lanes is taken: out of which, and what is left. -/
def Popped (us vs : List Value) (x : Value) (b : Bool) (us2 vs2 : List Value) : Prop := (b = true ∧ us = x :: us2 ∧ vs2 = vs) ∨ (b = false ∧ us = [] ∧ us2 = [] ∧ vs = x :: vs2)
theorem drop_cons_iff {α : Type} {l : List α} {k : Nat} {x : α} {r : List α} (h : l.drop k = x :: r) : r = l.drop (k + 1) ∧ l[k]? = some x := by
  obtain ⟨h1, h2, h3⟩ := drop_cons h
  refine ⟨h1.symm, ?_⟩
  have := congrArg (fun m => m[0]?) h
  simpa using this
theorem popped_drop {us vs us2 vs2 : List Value} {x : Value} {b : Bool} {k : Nat} (h : Popped (us.drop k) (vs.drop (k - us.length)) x b us2 vs2) :
    us2 = us.drop (k + 1) ∧ vs2 = vs.drop (k + 1 - us.length) ∧ (us ++ vs).take (k + 1) = (us ++ vs).take k ++ [x] ∧ k < (us ++ vs).length := by
  rcases h with ⟨-, h, rfl⟩ | ⟨-, h1, rfl, h2⟩
  · obtain ⟨e1, e2⟩ := drop_cons_iff h
    have hk : k < us.length := (List.getElem?_eq_some_iff.1 e2).1
    have hk2 : k < (us ++ vs).length := by rw [List.length_append]; omega
    refine ⟨e1, by rw [show k - us.length = 0 by omega, show k + 1 - us.length = 0 by omega], ?_, hk2⟩
    have hx : (us ++ vs)[k] = x := by
      have : (us ++ vs)[k]? = some x := by rw [List.getElem?_append_left hk]; exact e2
      rw [List.getElem?_eq_getElem hk2] at this
      exact Option.some.inj this
    rw [List.take_succ_eq_append_getElem hk2, hx]
  · have hk : us.length ≤ k := by
      rcases Nat.lt_or_ge k us.length with h | h
      · rw [List.drop_eq_getElem_cons h] at h1; cases h1
      · exact h
    obtain ⟨e1, e2⟩ := drop_cons_iff h2
    have hk3 : k - us.length < vs.length := (List.getElem?_eq_some_iff.1 e2).1
    have hk2 : k < (us ++ vs).length := by rw [List.length_append]; omega
    refine ⟨by rw [List.drop_eq_nil_of_le (by omega)], by rw [e1]; congr 1; omega, ?_, hk2⟩
    have hx : (us ++ vs)[k] = x := by
      have : (us ++ vs)[k]? = some x := by rw [List.getElem?_append_right hk]; exact e2
      rw [List.getElem?_eq_getElem hk2] at this
      exact Option.some.inj this
    rw [List.take_succ_eq_append_getElem hk2, hx]
theorem both_nil {us vs : List Value} {k : Nat} (h1 : us.drop k = []) (h2 : vs.drop (k - us.length) = []) (hk : k ≤ (us ++ vs).length) : k = (us ++ vs).length := by
  have e1 := congrArg List.length h1
  have e2 := congrArg List.length h2
  simp only [List.length_drop, List.length_nil, List.length_append] at e1 e2 hk ⊢
  omega
/-- What taking the first does. -/
def LTook2 (w : World) (gl gu cu gp cp cap : Nat) (us vs : List Value) (x : Value) (e : Ending) (w' : World) : Prop :=
  ∃ b us2 vs2, e = .returned (.tuple #[x, .bool b, .bool true]) ∧ La w' gl gu cu gp cp cap us2 vs2 ∧ Popped us vs x b us2 vs2 ∧ w.grownBy w' (some (if b then cu else cp))
theorem head_or {us vs : List Value} (h : ¬ (us = [] ∧ vs = [])) : ∃ x, (∃ us2, us = x :: us2) ∨ (us = [] ∧ ∃ vs2, vs = x :: vs2) := by
  cases us with
  | cons x r => exact ⟨x, .inl ⟨r, rfl⟩⟩
  | nil =>
    cases vs with
    | cons x r => exact ⟨x, .inr ⟨rfl, r, rfl⟩⟩
    | nil => exact absurd ⟨rfl, rfl⟩ h
theorem lget_some2 (gl gu cu gp cp cap : Nat) (x : Value) (us vs : List Value) (w : World) (h : La w gl gu cu gp cp cap us vs) (he : (∃ us2, us = x :: us2) ∨ (us = [] ∧ ∃ vs2, vs = x :: vs2)) :
    Calls Try.prog 30 #[.pointer (some ⟨gl, 0, none⟩)] w (LTook2 w gl gu cu gp cp cap us vs x) := by
  rcases he with ⟨us2, rfl⟩ | ⟨rfl, vs2, rfl⟩
  · exact (lget_u gl gu cu gp cp cap x us2 vs w h).mono fun e w' ⟨e1, e2, e3⟩ => ⟨true, us2, vs, e1, e2, .inl ⟨rfl, rfl, rfl⟩, e3⟩
  · exact (lget_p gl gu cu gp cp cap x vs2 w h).mono fun e w' ⟨e1, e2, e3⟩ => ⟨false, [], vs2, e1, e2, .inr ⟨rfl, rfl, rfl, rfl⟩, e3⟩
theorem head_mem {us vs : List Value} {x : Value} {us0 vs0 : List Value} {k m : Nat} (h : (∃ us2, us = x :: us2) ∨ (us = [] ∧ ∃ vs2, vs = x :: vs2)) (h1 : us = us0.drop k) (h2 : vs = vs0.drop m) : x ∈ us0 ++ vs0 := by
  rcases h with ⟨us2, e⟩ | ⟨_, vs2, e⟩
  · exact List.mem_append_left _ (List.mem_of_mem_drop (i := k) (by rw [← h1, e]; simp))
  · exact List.mem_append_right _ (List.mem_of_mem_drop (i := m) (by rw [← h2, e]; simp))
/-- What taking the first k does, by lanes. -/
def TakeR2 (B : Nat) (w : World) (gl gu cu gp cp cap : Nat) (us0 vs0 : List Value) (k : Nat) (v : Value) (wx : World) : Prop :=
  wx.ownsRow w.heap.size 42 1 v k ((us0 ++ vs0).take k) ∧ La wx gl gu cu gp cp cap (us0.drop k) (vs0.drop (k - us0.length)) ∧ ChO w wx ∧ Below B w wx
set_option maxHeartbeats 1600000 in
theorem take2_any (B gl gu cu gp cp cap : Nat) (us0 vs0 : List Value) (n : Int) (w : World) (h : La w gl gu cu gp cp cap us0 vs0) (hB : LaB B gl gu cu gp cp) (hbs : B ≤ w.heap.size) (h1 : ∀ v ∈ us0 ++ vs0, IsSl v) (hl : (us0 ++ vs0).length ≤ 1000000) :
    Calls Try.prog 29 #[.pointer (some ⟨gl, 0, none⟩), .int .i64 n] w fun e w' => ∃ v, e = .returned v ∧ TakeR2 B w gl gu cu gp cp cap us0 vs0 (min n.toNat (us0 ++ vs0).length) v w' := by
  obtain ⟨i0, hi, hz0, hz1, hz2⟩ := info_parts info_row
  have HLT := Lib.hid h.lt
  have H1 := Lib.hid h1
  have H := Lib.hid h
  have HB := Lib.hid hB
  obtain ⟨L, hL⟩ : ∃ L, (us0 ++ vs0).length = L := ⟨_, rfl⟩
  have HL := Lib.hid hL
  rw [hL] at hl ⊢
  clear h1 h hB hL
  go_enter Try.func29, Try.ntmps29
  go_wp2_with fail
  go_step3
  go_wp2_with fail
  go_step3
  go_wp2_with fail
  go_loopg [5] L (fun j out wr => ∃ (k : Nat), k + j = L ∧ (k = 0 ∨ (k : Int) ≤ n) ∧ Hid (TakeR2 B w gl gu cu gp cp cap us0 vs0 k out wr))
  case atStart => exact ⟨0, by omega, .inl rfl, by rw [List.take_zero]; exact World.ownsRow_nil _ _ _ _, by simpa using H.out, ChO.refl w, Below.refl _ _⟩
  case round =>
    obtain ⟨k, hkj, hkn, HR⟩ := hrel
    obtain ⟨hown, hla, hch, hbel⟩ := HR.out
    obtain ⟨A, c, rfl, hkc, hrc, -⟩ := own_form hown
    have HOWN := Lib.hid hown
    have HRC := Lib.hid hrc
    clear hown hrc
    have HPD := Lib.hid (fun (us2 vs2 : List Value) (x : Value) (b : Bool) (h : Popped (us0.drop k) (vs0.drop (k - us0.length)) x b us2 vs2) => popped_drop h)
    have HBN := Lib.hid (@both_nil us0 vs0 k)
    obtain ⟨us', hus'⟩ : ∃ u, us0.drop k = u := ⟨_, rfl⟩
    obtain ⟨vs', hvs'⟩ : ∃ v, vs0.drop (k - us0.length) = v := ⟨_, rfl⟩
    have HUS := Lib.hid hus'
    have HVS := Lib.hid hvs'
    rw [hus', hvs'] at hla
    clear hus' hvs'
    by_cases hkn2 : (k : Int) < n
    · by_cases hn : us' = [] ∧ vs' = []
      · obtain ⟨rfl, rfl⟩ := hn
        have hkl : k = L := by rw [← HL.out]; exact HBN.out HUS.out HVS.out (by rw [HL.out]; omega)
        have HM : Hid (min n.toNat L = k) := by show _ = _; omega
        clear hkl
        go_wp2_with fail
        (with_reducible refine (lget_none gl gu cu gp cp cap wr hla).mono ?_)
        rintro e w1 ⟨rfl, rfl⟩
        go_wp2_with fail
        try rw [Exit.noGoto_ret]
        go_ret
        exact ⟨_, rfl, by rw [HM.out]; exact HR.out⟩
      · obtain ⟨x, hx⟩ := head_or hn
        have HX := Lib.hid hx
        obtain ⟨xA, xn, xc, rfl⟩ := H1.out x (head_mem hx HUS.out.symm HVS.out.symm)
        clear hn hx
        go_wp2_with fail
        (with_reducible refine (lget_some2 gl gu cu gp cp cap _ us' vs' wr hla HX.out).mono ?_)
        rintro e w1 ⟨b, us2, vs2, rfl, hla2, hpop, hg2⟩
        have hpp := hpop
        rw [← HUS.out, ← HVS.out] at hpp
        obtain ⟨p1, p2, p3, p4⟩ := HPD.out _ _ _ _ hpp
        have HP1 := Lib.hid p1
        have HP2 := Lib.hid p2
        have HP3 := Lib.hid p3
        rw [HL.out] at p4
        obtain ⟨j, hj⟩ : ∃ j, gk = j + 1 := ⟨gk - 1, by omega⟩
        subst hj
        have hch2 := took_grown hla hg2
        have hbel2 : Below B w w1 := hbel.grown hg2 (by have := hch.size; omega) (fun q hq => by injection hq with hq; subst hq; have := HB.out; unfold LaB at this; cases b <;> simp <;> omega)
        have hown2 := (own_cho HOWN.out hch2).alloc (.cells #[.slice xA xn xc] 42)
        have hone : ∀ u ∈ [Value.slice xA xn xc], u.oneCell' = true := fun u hu => by simp only [List.mem_singleton] at hu; rw [hu]; rfl
        have hbs2 : w.heap.size ≤ (w1.alloc (.cells #[.slice xA xn xc] 42)).heap.size := by have := hch.size; have := hch2.size; simp; omega
        have HOL : Hid (∀ b, (Value.slice A k c).ownBlock = some b → w.heap.size ≤ b) := fun b hb => (own_lt HOWN.out hb).1
        clear hg2 hpop hpp p1 p2 p3
        go_wp2_with (at_builtin; refine wl_app _ rfl (.tmp 21) (.tmp 23) 33 rfl w.heap.size 42 i0 (.slice none 0 0) 1 24 Try.underlying33 hi hz0 hz1 hz2 rfl (by omega) _ _ _ rfl hown2 (some ⟨w1.heap.size, 0, none⟩) 1 1 [.slice xA xn xc] rfl rfl (rc_new w1 [.slice xA xn xc] 42) hone (by unfold maxLen; omega) (by omega) hbs2 ?_)
        intro v3 w3 hown3 hg3 hat3
        have G : Hid (TakeR2 B w gl gu cu gp cp cap us0 vs0 (k + 1) v3 w3) := by
          refine ⟨by rw [HP3.out]; exact hown3, ?_, ?_, ?_⟩
          · rw [← HP1.out, ← HP2.out]
            exact (hla2.kept ((Below.refl _ w1).alloc (Nat.le_refl _) _)).fresh hg3 HLT.out HOL.out
          · exact ((hch.trans hch2).trans (ChO.below ((Below.refl _ w1).alloc (Nat.le_refl _) _))).fresh hg3 HOL.out
          · exact (hbel2.alloc (by have := hbel2.size; have := hch.size; have := hch2.size; omega) _).grown hg3 (by have := hch.size; have := hch2.size; simp; omega) (fun q hq => by have := HOL.out q hq; omega)
        clear hown3 hg3 hat3 hone hbs2 hown2
        go_wp2_with fail
        go_roundg j
        case measure => omega
        exact ⟨k + 1, by omega, .inr (by omega), G⟩
    · have HM : Hid (min n.toNat L = k) := by show _ = _; omega
      go_wp2_with fail
      try rw [Exit.noGoto_ret]
      go_ret
      exact ⟨_, rfl, by rw [HM.out]; exact HR.out⟩

/-- The document's lanes behind a pointer. -/
structure Rl (w : World) (base gm : Nat) (size : Int) (ru rp : Value) (mu mp : List Value) : Prop where
  blk : Blk w gm 64 [ru, .int .i64 size, rp, .int .i64 size]
  u : w.ownsRow base 42 1 ru mu.length mu
  p : w.ownsRow base 42 1 rp mp.length mp
  dj : ∀ b, ru.ownBlock = some b → rp.ownBlock ≠ some b
theorem Rl.toU {w : World} {base gm : Nat} {size : Int} {ru rp : Value} {mu mp : List Value} (h : Rl w base gm size ru rp mu mp) : RqU w base gm size rp ru mu := ⟨h.blk, h.u⟩
theorem Rl.toP {w : World} {base gm : Nat} {size : Int} {ru rp : Value} {mu mp : List Value} (h : Rl w base gm size ru rp mu mp) : RqP w base gm size ru rp mp := ⟨h.blk, h.p⟩
theorem own_gm {w w' : World} {base gm n : Nat} {t : TypeId} {v : Value} {xs cs : List Value} (ho : w.ownsRow base 42 1 v n xs) (hb : Blk w gm t cs) (hne : 42 ≠ t) (hg : w.grownBy w' (some gm)) : w'.ownsRow base 42 1 v n xs := ho.kept hg (by
  cases hv : v.ownBlock with
  | none => exact .inl rfl
  | some b => exact .inr (fun e => by injection e with e; exact own_blk_ne ho hb hne b hv e))
theorem Rl.kept {w w' : World} {base gm : Nat} {size : Int} {ru rp : Value} {mu mp : List Value} (h : Rl w base gm size ru rp mu mp) (hb : Below w.heap.size w w') : Rl w' base gm size ru rp mu mp := ⟨h.blk.kept hb, own_below h.u hb, own_below h.p hb, h.dj⟩
/-- A row's block is the old one's, or a new one. -/
def Nw (w : World) (r r2 : Value) : Prop := r2 = r ∨ ∀ b, r2.ownBlock = some b → w.heap.size ≤ b
set_option maxHeartbeats 800000 in
theorem rlget_none (base gm : Nat) (size : Int) (ru rp : Value) (w : World) (h : Rl w base gm size ru rp [] []) :
    Calls Try.prog 32 #[.pointer (some ⟨gm, 0, none⟩)] w fun e w' => e = .returned (.tuple #[.slice none 0 0, .bool false, .bool false]) ∧ w' = w := by
  go_enter Try.func32, Try.ntmps32
  go_wp2_with fail
  (with_reducible refine (rget_noneU base gm size rp ru w h.toU).mono ?_)
  rintro e w1 ⟨rfl, rfl⟩
  go_wp2_with fail
  (with_reducible refine (rget_noneP base gm size ru rp w1 h.toP).mono ?_)
  rintro e w2 ⟨rfl, rfl⟩
  go_wp2_with fail
  go_ret3
  exact ⟨rfl, rfl⟩
/-- What the document's Get does. -/
def RTook (w : World) (base gm : Nat) (size : Int) (ru rp : Value) (us vs : List Value) (x : Value) (e : Ending) (w' : World) : Prop :=
  ∃ b us2 vs2 ru2 rp2, e = .returned (.tuple #[x, .bool b, .bool true]) ∧ Rl w' base gm size ru2 rp2 us2 vs2 ∧ Popped us vs x b us2 vs2 ∧ w.grownBy w' (some gm) ∧ Nw w ru ru2 ∧ Nw w rp rp2
set_option maxHeartbeats 800000 in
theorem rlget_some (base gm : Nat) (size : Int) (ru rp x : Value) (us vs : List Value) (w : World) (h : Rl w base gm size ru rp us vs) (hbs : base ≤ w.heap.size) (he : (∃ us2, us = x :: us2) ∨ (us = [] ∧ ∃ vs2, vs = x :: vs2)) (hsu : ∀ u ∈ us, IsSl u) (hsv : ∀ u ∈ vs, IsSl u) (hlu : us.length ≤ 5000) (hlv : vs.length ≤ 5000) :
    Calls Try.prog 32 #[.pointer (some ⟨gm, 0, none⟩)] w (RTook w base gm size ru rp us vs x) := by
  rcases he with ⟨us2, rfl⟩ | ⟨rfl, vs2, rfl⟩
  · obtain ⟨xA, xn, xc, rfl⟩ := hsu x (by simp)
    have HSU := Lib.hid hsu
    have hl2 : us2.length ≤ 5000 := by simp at hlu; omega
    clear hsu hsv hlu
    go_enter Try.func32, Try.ntmps32
    go_wp2_with fail
    (with_reducible refine (rget_someU base gm size rp ru _ us2 w h.toU hbs HSU.out hl2).mono ?_)
    rintro e w1 ⟨ru2, rfl, hq, hg, hn⟩
    have G : Hid (Rl w1 base gm size ru2 rp us2 vs) := ⟨hq.blk, hq.own, own_gm h.p h.blk (by decide) hg, fun b hb hb' => by have := hn b hb; have := (own_lt h.p hb').2; omega⟩
    have HG := Lib.hid hg
    have HN := Lib.hid hn
    clear hq hg hn
    go_wp2_with fail
    go_ret3
    exact ⟨true, us2, vs, ru2, rp, rfl, G.out, .inl ⟨rfl, rfl, rfl⟩, HG.out, .inr HN.out, .inl rfl⟩
  · obtain ⟨xA, xn, xc, rfl⟩ := hsv x (by simp)
    have HSV := Lib.hid hsv
    have hl2 : vs2.length ≤ 5000 := by simp at hlv; omega
    clear hsu hsv hlv
    go_enter Try.func32, Try.ntmps32
    go_wp2_with fail
    (with_reducible refine (rget_noneU base gm size rp ru w h.toU).mono ?_)
    rintro e w0 ⟨rfl, rfl⟩
    go_wp2_with fail
    (with_reducible refine (rget_someP base gm size ru rp _ vs2 w0 h.toP hbs HSV.out hl2).mono ?_)
    rintro e w1 ⟨rp2, rfl, hq, hg, hn⟩
    have G : Hid (Rl w1 base gm size ru rp2 [] vs2) := ⟨hq.blk, own_gm h.u h.blk (by decide) hg, hq.own, fun b hb hb' => by have := hn b hb'; have := (own_lt h.u hb).2; omega⟩
    have HG := Lib.hid hg
    have HN := Lib.hid hn
    clear hq hg hn
    go_wp2_with fail
    go_ret3
    exact ⟨false, [], vs2, ru, rp2, rfl, G.out, .inr ⟨rfl, rfl, rfl, rfl⟩, HG.out, .inl rfl, .inr HN.out⟩
end Go.Proofs.Ytkgkbmiacomhdaa
