/- The walk of AddrPlaces. -/
import Derived.Test.YtfhdkcdhfdapbaaDoorAdNode
import Derived.Test.YtfhdkcdhfdapbaaDoorAdOpen
import Derived.Deep.CutBlock
import Derived.Deep.DeepCutAuto
namespace Go.Proofs.YtfhdkcdhfdapbaaDoor
set_option linter.unusedVariables false
set_option linter.unusedSimpArgs false
open Go.RowKit Go.Sort

theorem kindOf_mod (n : Int) (h : IsN n) : Int.tmod (kindOf n) 16 = 0 ∧ 0 ≤ n - kindOf n ∧ n - kindOf n ≤ 7 ∧ 0 ≤ kindOf n ∧ kindOf n ≤ 48 := by
  unfold kindOf
  unfold IsN at h
  split
  · refine ⟨by decide, ?_⟩; omega
  · split
    · refine ⟨by decide, ?_⟩; omega
    · split
      · refine ⟨by decide, ?_⟩; omega
      · refine ⟨by decide, ?_⟩; omega
theorem okn_bool (k p : Int) : ∃ b : Bool, (OKN k p ↔ b = true) := by
  by_cases h : OKN k p
  · exact ⟨true, by simp [h]⟩
  · exact ⟨false, by simp [h]⟩
theorem bool_no {P : Prop} {b : Bool} (h : P ↔ b = true) (hn : ¬ P) : b = false := by
  cases b with
  | false => rfl
  | true => exact absurd (h.2 rfl) hn
set_option maxRecDepth 100000 in
set_option maxHeartbeats 6400000 in
theorem nodes_any (kind place node : Int) (a : Nat) (w : World) (ha : a < 4294967296) (hG : Gd w) :
    Calls Tryd.prog 21 #[.int .i64 kind, .int .i64 place, .int .i64 node, .int .u32 (a : Int)] w fun e w' => e = .returned (.bool true) ∧ Below w.heap.size w w' := by
  have hq := fun W => er_neq 12 12 W
  go_enter Tryd.func21, Tryd.ntmps21
  go_wp2_with fail
  (with_reducible refine (alive_any w hG).mono ?_)
  rintro e w1 ⟨rfl, hb1⟩
  go_upto_region 3 with (fail)
  go_cut [9, 10] (fun v9 v10 wx => ((OKN kind place ∧ v9 = .int .i64 (kind + place) ∧ v10 = .nilIface) ∨ (¬ OKN kind place ∧ v9 = .int .i64 0 ∧ v10 = er 12)) ∧ w1 = wx)
  case first =>
    as_aux_lemma =>
      by_cases hok : OKN kind place
      · have HOK := Lib.hid hok
        go_wp2_with fail
        (with_reducible refine (node_yes kind place w1 hok).mono ?_)
        rintro e w2 ⟨rfl, rfl⟩
        clear hok
        go_wp2_with fail
        go_meet
        exact ⟨.inl ⟨HOK.out, rfl, rfl⟩, rfl⟩
      · have HOK := Lib.hid hok
        go_wp2_with fail
        (with_reducible refine (node_no kind place w1 hok).mono ?_)
        rintro e w2 ⟨rfl, rfl⟩
        clear hok
        go_wp2_with fail
        go_meet
        exact ⟨.inr ⟨HOK.out, rfl, rfl⟩, rfl⟩
  case rest =>
    obtain ⟨hor, rfl⟩ := hcut
    go_upto_region 4 with (fail)
    obtain ⟨bk, hbk⟩ := okn_bool kind place
    have HBK := Lib.hid hbk
    clear hbk
    go_cut [11] (fun v wx => v = .bool bk ∧ w1 = wx)
    case first =>
      as_aux_lemma =>
        by_cases k0 : kind = 0
        · subst k0
          by_cases p0 : place = 0
          · subst p0
            have hbb : Hid (bk = true) := HBK.out.1 (by unfold OKN; omega)
            go_wp2_with fail
            go_meet
            exact ⟨by rw [hbb.out], rfl⟩
          · have q0 : (place == 0) = false := beq_eq_false_iff_ne.2 p0
            have hbb : Hid (bk = false) := bool_no HBK.out (by unfold OKN; omega)
            clear p0
            go_wp2_with fail
            go_meet
            exact ⟨by rw [hbb.out], rfl⟩
        · have q0 : (kind == 0) = false := beq_eq_false_iff_ne.2 k0
          by_cases kk : kind = 16 ∨ kind = 32 ∨ kind = 48
          · by_cases p1 : 0 ≤ place
            · have q1 : decide (0 ≤ place) = true := decide_eq_true p1
              by_cases p2 : place < 8
              · have q2 : decide (place < 8) = true := decide_eq_true p2
                have hbb : Hid (bk = true) := HBK.out.1 (by unfold OKN; omega)
                clear k0 p1 p2
                rcases kk with rfl | rfl | rfl
                all_goals
                  go_wp2_with fail
                  go_meet
                  exact ⟨by rw [hbb.out], rfl⟩
              · have q2 : decide (place < 8) = false := decide_eq_false p2
                have hbb : Hid (bk = false) := bool_no HBK.out (by unfold OKN; omega)
                clear k0 p1 p2
                rcases kk with rfl | rfl | rfl
                all_goals
                  go_wp2_with fail
                  go_meet
                  exact ⟨by rw [hbb.out], rfl⟩
            · have q1 : decide (0 ≤ place) = false := decide_eq_false p1
              have hbb : Hid (bk = false) := bool_no HBK.out (by unfold OKN; omega)
              clear k0 p1
              rcases kk with rfl | rfl | rfl
              all_goals
                go_wp2_with fail
                go_meet
                exact ⟨by rw [hbb.out], rfl⟩
          · have q1 : (kind == 16) = false := beq_eq_false_iff_ne.2 (by omega)
            have q2 : (kind == 32) = false := beq_eq_false_iff_ne.2 (by omega)
            have q3 : (kind == 48) = false := beq_eq_false_iff_ne.2 (by omega)
            have hbb : Hid (bk = false) := bool_no HBK.out (by unfold OKN; omega)
            clear k0 kk
            go_wp2_with fail
            go_meet
            exact ⟨by rw [hbb.out], rfl⟩
    case rest =>
      obtain ⟨rfl, rfl⟩ := hcut
      go_upto_region 5 with (fail)
      go_cut [80] (fun v wx => v = .bool false ∧ w1 = wx)
      case first =>
        as_aux_lemma =>
          rcases hor with ⟨h1, rfl, rfl⟩ | ⟨h1, rfl, rfl⟩
          · have hb : bk = true := HBK.out.1 h1
            subst hb
            have hw : IntKind.i64.wrap (kind + place) = kind + place := by unfold OKN at h1; exact IntWalk.i64_in _ (by omega)
            clear h1
            go_wp2_with fail
            go_meet
            exact ⟨rfl, rfl⟩
          · have hb : bk = false := bool_no HBK.out h1
            subst hb
            clear h1
            go_wp2_with fail
            go_meet
            exact ⟨rfl, rfl⟩
      case rest =>
        obtain ⟨rfl, rfl⟩ := hcut
        clear hor HBK
        by_cases hn : IsN node
        · as_aux_lemma =>
            have hm := kindOf_mod node hn
            have hbd := isN_bd hn
            have HN := Lib.hid hn
            go_wp2_with fail
            (with_reducible refine (kind_yes node w1 hn).mono ?_)
            rintro e w2 ⟨rfl, rfl⟩
            obtain ⟨kq, hkq⟩ : ∃ kq, kindOf node = kq := ⟨_, rfl⟩
            rw [hkq] at hm ⊢
            obtain ⟨m1, m2, m3, m4, m5⟩ := hm
            have d1 : decide (node - kq < 0) = false := decide_eq_false (by omega)
            have d2 : decide (7 < node - kq) = false := decide_eq_false (by omega)
            have e1 : kq + (node - kq) = node := by omega
            have d3 : (Int.tmod kq 16 != 0) = false := by rw [m1]; rfl
            clear hkq hn
            go_wp2_with fail
            (with_reducible refine (ris_yes node w2 HN.out).mono ?_)
            rintro e w3 ⟨rfl, rfl⟩
            go_wp2_with fail
            (with_reducible refine (of_yes node w3 HN.out).mono ?_)
            rintro e w4 ⟨rfl, rfl⟩
            go_wp2_with fail
            (with_reducible refine (rof_any node w4 HN.out).mono ?_)
            rintro e w5 ⟨rfl, rfl⟩
            go_wp2_with fail
            by_cases hw : IsN ((a : Int) - 167772160)
            · as_aux_lemma =>
                have hwb := isN_bd hw
                obtain ⟨x, hx⟩ : ∃ x : Int, (a : Int) = 167772160 + x := ⟨(a : Int) - 167772160, by omega⟩
                have hxN : IsN x := by rw [show x = (a : Int) - 167772160 by omega]; exact hw
                have HXN := Lib.hid hxN
                have hx0 := isN_bd hxN
                have d4 : decide (0 ≤ x) = true := decide_eq_true (by omega)
                have ew : 167772160 + x - 167772160 = x := by omega
                rw [hx]
                clear hx hw hxN hwb
                (with_reducible refine (who_yes x w5 HXN.out).mono ?_)
                rintro e w6 ⟨rfl, rfl⟩
                go_wp2_with fail
                (with_reducible refine (ris_yes x w6 HXN.out).mono ?_)
                rintro e w7 ⟨rfl, rfl⟩
                go_wp2_with fail
                go_ret
                exact ⟨rfl, hb1⟩
            · as_aux_lemma =>
                have HW := Lib.hid hw
                (with_reducible refine (who_no a w5 ha hw).mono ?_)
                rintro e w6 ⟨rfl, rfl⟩
                clear hw
                by_cases h0 : 0 ≤ (a : Int) - 167772160
                · have d4 : decide (0 ≤ (a : Int) - 167772160) = true := decide_eq_true h0
                  have d5 : decide (167772160 ≤ (a : Int)) = true := decide_eq_true (by omega)
                  have d6 : decide (167772160 ≤ a) = true := decide_eq_true (by omega)
                  clear h0
                  go_wp2_with fail
                  (with_reducible refine (ris_no ((a : Int) - 167772160) w6 HW.out).mono ?_)
                  rintro e w7 ⟨rfl, rfl⟩
                  go_wp2_with fail
                  go_ret
                  exact ⟨rfl, hb1⟩
                · have d4 : decide (0 ≤ (a : Int) - 167772160) = false := decide_eq_false h0
                  have d5 : decide (167772160 ≤ (a : Int)) = false := decide_eq_false (by omega)
                  have d6 : decide (167772160 ≤ a) = false := decide_eq_false (by omega)
                  clear h0
                  go_wp2_with fail
                  go_ret
                  exact ⟨rfl, hb1⟩
        · as_aux_lemma =>
            have HN := Lib.hid hn
            go_wp2_with fail
            (with_reducible refine (kind_no node w1 hn).mono ?_)
            rintro e w2 ⟨rfl, rfl⟩
            clear hn
            go_wp2_with fail
            (with_reducible refine (ris_no node w2 HN.out).mono ?_)
            rintro e w3 ⟨rfl, rfl⟩
            go_wp2_with fail
            (with_reducible refine (of_no node w3 HN.out).mono ?_)
            rintro e w5 ⟨rfl, rfl⟩
            go_wp2_with fail
            by_cases hw : IsN ((a : Int) - 167772160)
            · as_aux_lemma =>
                have hwb := isN_bd hw
                obtain ⟨x, hx⟩ : ∃ x : Int, (a : Int) = 167772160 + x := ⟨(a : Int) - 167772160, by omega⟩
                have hxN : IsN x := by rw [show x = (a : Int) - 167772160 by omega]; exact hw
                have HXN := Lib.hid hxN
                have hx0 := isN_bd hxN
                have d4 : decide (0 ≤ x) = true := decide_eq_true (by omega)
                have ew : 167772160 + x - 167772160 = x := by omega
                rw [hx]
                clear hx hw hxN hwb
                (with_reducible refine (who_yes x w5 HXN.out).mono ?_)
                rintro e w6 ⟨rfl, rfl⟩
                go_wp2_with fail
                (with_reducible refine (ris_yes x w6 HXN.out).mono ?_)
                rintro e w7 ⟨rfl, rfl⟩
                go_wp2_with fail
                go_ret
                exact ⟨rfl, hb1⟩
            · as_aux_lemma =>
                have HW := Lib.hid hw
                (with_reducible refine (who_no a w5 ha hw).mono ?_)
                rintro e w6 ⟨rfl, rfl⟩
                clear hw
                by_cases h0 : 0 ≤ (a : Int) - 167772160
                · have d4 : decide (0 ≤ (a : Int) - 167772160) = true := decide_eq_true h0
                  have d5 : decide (167772160 ≤ (a : Int)) = true := decide_eq_true (by omega)
                  have d6 : decide (167772160 ≤ a) = true := decide_eq_true (by omega)
                  clear h0
                  go_wp2_with fail
                  (with_reducible refine (ris_no ((a : Int) - 167772160) w6 HW.out).mono ?_)
                  rintro e w7 ⟨rfl, rfl⟩
                  go_wp2_with fail
                  go_ret
                  exact ⟨rfl, hb1⟩
                · have d4 : decide (0 ≤ (a : Int) - 167772160) = false := decide_eq_false h0
                  have d5 : decide (167772160 ≤ (a : Int)) = false := decide_eq_false (by omega)
                  have d6 : decide (167772160 ≤ a) = false := decide_eq_false (by omega)
                  clear h0
                  go_wp2_with fail
                  go_ret
                  exact ⟨rfl, hb1⟩
set_option maxHeartbeats 800000 in
theorem AddrPlaces_walk (v : Value) (k p n : Int) (a : Nat) (w : World) (hG : Gd w) (hv : v = .agg #[.int .i64 k, .int .i64 p, .int .i64 n, .int .u32 (a : Int)]) (ha : a < 4294967296) :
    Calls Tryd.prog 5 #[v] w fun e w' => e = .returned (.bool true) ∧ Below w.heap.size w w' := by
  subst hv
  have hal : Below w.heap.size w (w.alloc (.cells #[.int .i64 k, .int .i64 p, .int .i64 n, .int .u32 (a : Int)] 42)) := (Below.refl _ w).alloc (Nat.le_refl _) _
  go_enter Tryd.func5, Tryd.ntmps5
  go_wp2_with fail
  (with_reducible refine (nodes_any k p n a _ ha (hG.below hal)).mono ?_)
  rintro e w1 ⟨rfl, hb1⟩
  go_wp2_with fail
  go_ret
  exact ⟨rfl, below_call hal hb1⟩
theorem AddrPlacesX_walk {H : Type} (x : Pc) (v : Value) (w : World) (hG : Gd w) {d : DataW H} (o : PcIs v d x) (b : Rows.uptoBulk d ≤ 1048576) :
    Calls Tryd.prog 5 #[v] w fun e w' => e = .returned (.bool true) ∧ Below w.heap.size w w' := AddrPlaces_walk v x.k x.p x.n x.a w hG o.1 o.2
end Go.Proofs.YtfhdkcdhfdapbaaDoor
