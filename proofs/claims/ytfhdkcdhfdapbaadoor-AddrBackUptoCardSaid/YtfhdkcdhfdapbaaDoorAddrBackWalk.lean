/- The walk of AddrBack. -/
import Derived.Test.YtfhdkcdhfdapbaaDoorAdNode
import Derived.Test.YtfhdkcdhfdapbaaDoorAdOpen
import Derived.Test.YtfhdkcdhfdapbaaDoorAdLaw
import Derived.Deep.CutBlock
import Derived.Deep.DeepCutAuto
namespace Go.Proofs.YtfhdkcdhfdapbaaDoor
set_option linter.unusedVariables false
set_option linter.unusedSimpArgs false
open Go.RowKit Go.Sort

theorem okn_kind {k p : Int} (h : OKN k p) : IsN (k + p) ∧ kindOf (k + p) = k := by
  unfold OKN at h
  refine ⟨by unfold IsN; omega, ?_⟩
  unfold kindOf
  split
  · omega
  · split
    · omega
    · split
      · omega
      · omega
theorem blk4p {w : World} {g : Nat} {t : TypeId} {a b c d : Value} (h : Blk w g t [a, b, c, d]) : w.cell? ⟨g, 0, none⟩ = some a ∧ w.cell? ⟨g, 1, none⟩ = some b := ⟨h.cell 0, h.cell 1⟩
set_option maxRecDepth 100000 in
set_option maxHeartbeats 6400000 in
theorem AddrBack_walk (a : Nat) (s : ByteArray) (k p n : Int) (a2 : Nat) (w : World) (hG : Gd w) (ha : a < 4294967296) (hs : s.size ≤ 1048576) :
    Calls Tryd.prog 6 #[.int .u32 (a : Int), .string s, .agg #[.int .i64 k, .int .i64 p, .int .i64 n, .int .u32 (a2 : Int)]] w fun e w' => e = .returned (.bool true) ∧ Below w.heap.size w w' := by
  have hal : Below w.heap.size w (w.alloc (.cells #[.int .i64 k, .int .i64 p, .int .i64 n, .int .u32 (a2 : Int)] 42)) := (Below.refl _ w).alloc (Nat.le_refl _) _
  have hX : Blk (w.alloc (.cells #[.int .i64 k, .int .i64 p, .int .i64 n, .int .u32 (a2 : Int)] 42)) w.heap.size 42 [.int .i64 k, .int .i64 p, .int .i64 n, .int .u32 (a2 : Int)] := Blk.new w _ _
  go_enter Tryd.func6, Tryd.ntmps6
  go_wp2_with fail
  generalize (w.alloc (.cells #[.int .i64 k, .int .i64 p, .int .i64 n, .int .u32 (a2 : Int)] 42)) = wa at *
  have hGa := hG.below hal
  (with_reducible refine (alive_any wa hGa).mono ?_)
  rintro e w1 ⟨rfl, hb1⟩
  have hbw1 := below_call hal hb1
  have hX1 := hX.kept hb1
  go_wp2_with fail
  (with_reducible refine (text_any a w1 ha (hG.below hbw1)).mono ?_)
  rintro e w2 ⟨rfl, hb2⟩
  have hbw2 := below_call hbw1 hb2
  have hX2 := hX1.kept hb2
  have hpt := parseR_some (parse_text a ha)
  have hsz : (strOf (textL a)).size ≤ 1048576 := by
    have h0 := numL_len _ (adB_lt a 0 ha)
    have h1 := numL_len _ (adB_lt a 1 ha)
    have h2 := numL_len _ (adB_lt a 2 ha)
    have h3 := numL_len _ (adB_lt a 3 ha)
    have e : (strOf (textL a)).size = (textL a).length := by simp [ByteArray.size]
    rw [e]
    unfold textL
    simp only [Lib.join, List.intercalate, List.intersperse, List.flatten_cons, List.flatten_nil, List.length_append, List.length_cons, List.length_nil]
    omega
  go_wp2_with fail
  (with_reducible refine (parse_any _ w2 hsz (hG.below hbw2)).mono ?_)
  rintro e w3 ⟨rfl, hb3⟩
  have hbw3 := below_call hbw2 hb3
  have hX3 := hX2.kept hb3
  rw [hpt]
  clear hpt hsz hX hX1 hX2 hb1 hb2 hb3 hal hbw1 hbw2 hGa
  go_upto_region 6 with (fail)
  go_cut [7, 8] (fun v7 v8 wx => ((∃ x : Nat, v7 = .int .u32 (x : Int) ∧ v8 = .nilIface ∧ parseA s = some x) ∨ (v7 = .int .u32 0 ∧ v8 = er 1)) ∧ Hid (Below w3.heap.size w3 wx))
  case first =>
    go_wp2_with fail
    (with_reducible refine (parse_any s w3 hs (hG.below hbw3)).mono ?_)
    rintro e w4 ⟨rfl, hb4⟩
    have hb4 := Lib.hid hb4
    cases hp : parseA s with
    | some x =>
      have HP := Lib.hid hp
      rw [parseR_some hp]
      clear hp
      go_wp2_with fail
      go_meet
      exact ⟨.inl ⟨x, rfl, rfl, HP.out⟩, hb4⟩
    | none =>
      rw [parseR_none hp]
      clear hp
      go_wp2_with fail
      go_meet
      exact ⟨.inr ⟨rfl, rfl⟩, hb4⟩
  case rest =>
    obtain ⟨w4, rfl⟩ : ∃ x, x = wc := ⟨_, rfl⟩
    obtain ⟨hor, hb4⟩ := hcut
    have hbw4 := below_call hbw3 hb4.out
    have hX4 := hX3.kept hb4.out
    go_upto_region 7 with (fail)
    go_cut [57] (fun v wx => v = .bool false ∧ Hid (Below w4.heap.size w4 wx))
    case first =>
      rcases hor with ⟨x, rfl, rfl, hp⟩ | ⟨rfl, rfl⟩
      · obtain ⟨rfl, hx⟩ := parse_some hp
        clear hp hs
        go_wp2_with fail
        (with_reducible refine (text_any x w4 hx (hG.below hbw4)).mono ?_)
        rintro e w5 ⟨rfl, hb5⟩
        have hb5 := Lib.hid hb5
        go_wp2_with fail
        go_meet
        exact ⟨rfl, hb5⟩
      · go_wp2_with fail
        go_meet
        exact ⟨rfl, Below.refl _ _⟩
    case rest =>
      obtain ⟨rfl, hb5⟩ := hcut
      have hbw5 := below_call hbw4 hb5.out
      have hX5 := hX4.kept hb5.out
      obtain ⟨x0, x1⟩ := blk4p hX5
      have HB := Lib.hid hbw5
      clear hor hb5 hb4 hX3 hX4 hX5 hbw4 hbw3 hbw5 hs
      by_cases hok : OKN k p
      · obtain ⟨hN, hk2⟩ := okn_kind hok
        have hNb := isN_bd hN
        have HOK := Lib.hid hok
        obtain ⟨q, hq⟩ : ∃ q : Nat, k + p = (q : Int) := ⟨(k + p).toNat, by omega⟩
        have hq56 : q < 56 := by omega
        have hqk : (q : Int) - k = p := by omega
        rw [hq] at hN hk2
        have HN := Lib.hid hN
        have HQ := Lib.hid hq
        have HK2 := Lib.hid hk2
        have c3 : ∀ W, Calls Tryd.prog 19 #[.int .u32 (167772160 + (q : Int))] W fun e w' => e = .returned (.bool false) ∧ w' = W := fun W => by
          have h := isvip_any (167772160 + q) W (by omega)
          rw [show ((167772160 + q : Nat) : Int) = 167772160 + (q : Int) by omega, show isV (167772160 + q) = false from decide_eq_false (by omega)] at h
          exact h
        have C3 := Lib.hid c3
        clear hN hk2 hok c3 hq hNb
        go_wp2_with fail
        (with_reducible refine (node_yes k p wc HOK.out).mono ?_)
        rintro e w6 ⟨rfl, rfl⟩
        rw [HQ.out]
        go_wp2_with fail
        (with_reducible refine (kind_yes (q : Int) w6 HN.out).mono ?_)
        rintro e w7 ⟨rfl, rfl⟩
        rw [HK2.out, hqk]
        go_wp2_with fail
        (with_reducible refine (of_yes (q : Int) w7 HN.out).mono ?_)
        rintro e w8 ⟨rfl, rfl⟩
        go_wp2_with fail
        (with_reducible refine (who_yes (q : Int) w8 HN.out).mono ?_)
        rintro e w9 ⟨rfl, rfl⟩
        go_wp2_with fail
        (with_reducible refine (C3.out w9).mono ?_)
        rintro e w10 ⟨rfl, rfl⟩
        go_wp2_with fail
        have hbX := HB.out
        (with_reducible refine (home_any a w10 ha).mono ?_)
        rintro e wh ⟨rfl, rfl⟩
        by_cases hm : isM a
        · as_aux_lemma =>
            have H1 : homeR a = .tuple #[.int .i64 ((48 + a / 256 % 256 : Nat) : Int), .int .i64 ((a % 256 : Nat) : Int), .bool true] := by unfold homeR; rw [if_pos hm]
            have hv : isV a = false := by unfold isV; exact decide_eq_false (by have := hm.1; omega)
            obtain ⟨hxy, hd⟩ := (isM_iff a ha).1 hm
            generalize a / 256 % 256 = x at *
            generalize a % 256 = y at *
            have hs' : ((48 + x : Nat) : Int) = (x : Int) + 48 := by omega
            rw [H1, hs']
            have HXY := Lib.hid hxy
            have HD := Lib.hid hd
            have HV := Lib.hid hv
            have hx8 : x < 8 := hxy.1
            clear H1 hs' hm hxy hd hv
            go_wp2_with fail
            (with_reducible refine (dip_yes x y wh HXY.out.1 HXY.out.2).mono ?_)
            rintro e wi ⟨rfl, rfl⟩
            rw [HD.out]
            go_wp2_with fail
            (with_reducible refine (isvip_any a wi ha).mono ?_)
            rintro e wj ⟨rfl, rfl⟩
            rw [HV.out]
            go_wp2_with fail
            go_ret
            exact ⟨rfl, hbX⟩
        · as_aux_lemma =>
            have H1 : homeR a = .tuple #[.int .i64 0, .int .i64 0, .bool false] := by unfold homeR; rw [if_neg hm]
            rw [H1]
            clear H1 hm
            go_wp2_with fail
            go_ret
            exact ⟨rfl, hbX⟩
      · have HOK := Lib.hid hok
        clear hok
        go_wp2_with fail
        (with_reducible refine (node_no k p wc HOK.out).mono ?_)
        rintro e w6 ⟨rfl, rfl⟩
        go_wp2_with fail
        have hbX := HB.out
        (with_reducible refine (home_any a w6 ha).mono ?_)
        rintro e wh ⟨rfl, rfl⟩
        by_cases hm : isM a
        · as_aux_lemma =>
            have H1 : homeR a = .tuple #[.int .i64 ((48 + a / 256 % 256 : Nat) : Int), .int .i64 ((a % 256 : Nat) : Int), .bool true] := by unfold homeR; rw [if_pos hm]
            have hv : isV a = false := by unfold isV; exact decide_eq_false (by have := hm.1; omega)
            obtain ⟨hxy, hd⟩ := (isM_iff a ha).1 hm
            generalize a / 256 % 256 = x at *
            generalize a % 256 = y at *
            have hs' : ((48 + x : Nat) : Int) = (x : Int) + 48 := by omega
            rw [H1, hs']
            have HXY := Lib.hid hxy
            have HD := Lib.hid hd
            have HV := Lib.hid hv
            have hx8 : x < 8 := hxy.1
            clear H1 hs' hm hxy hd hv
            go_wp2_with fail
            (with_reducible refine (dip_yes x y wh HXY.out.1 HXY.out.2).mono ?_)
            rintro e wi ⟨rfl, rfl⟩
            rw [HD.out]
            go_wp2_with fail
            (with_reducible refine (isvip_any a wi ha).mono ?_)
            rintro e wj ⟨rfl, rfl⟩
            rw [HV.out]
            go_wp2_with fail
            go_ret
            exact ⟨rfl, hbX⟩
        · as_aux_lemma =>
            have H1 : homeR a = .tuple #[.int .i64 0, .int .i64 0, .bool false] := by unfold homeR; rw [if_neg hm]
            rw [H1]
            clear H1 hm
            go_wp2_with fail
            go_ret
            exact ⟨rfl, hbX⟩
theorem AddrBackX_walk {H : Type} (x0 : Int) (x1 : ByteArray) (x2 : Pc) (v2 : Value) (w : World) (hG : Gd w) (u0 : (Lit.int .u32 x0).wf = true) (n1 : x1.size ≤ 1048576) {d : DataW H} (o : PcIs v2 d x2) (b : Rows.uptoBulk d ≤ 1048576) :
    Calls Tryd.prog 6 #[.int .u32 x0, .string x1, v2] w fun e w' => e = .returned (.bool true) ∧ Below w.heap.size w w' := by
  obtain ⟨a, rfl, ha⟩ := u32_nat u0
  obtain ⟨rfl, h2⟩ := o
  exact AddrBack_walk a x1 x2.k x2.p x2.n x2.a w hG ha n1
end Go.Proofs.YtfhdkcdhfdapbaaDoor
