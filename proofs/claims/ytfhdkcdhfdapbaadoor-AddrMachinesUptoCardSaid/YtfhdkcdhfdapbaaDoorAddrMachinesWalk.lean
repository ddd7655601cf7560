/- The walk of AddrMachines. -/
import Derived.Test.YtfhdkcdhfdapbaaDoorAdHome
namespace Go.Proofs.YtfhdkcdhfdapbaaDoor
set_option linter.unusedVariables false
set_option linter.unusedSimpArgs false
open Go.RowKit Go.Sort

set_option maxRecDepth 100000 in
set_option maxHeartbeats 3200000 in
theorem AddrMachines_walk (host vm : Int) (a : Int) (w : World) (hG : Gd w) (u0 : (Lit.int .i64 host).wf = true) (u1 : (Lit.int .i64 vm).wf = true) (u2 : (Lit.int .u32 a).wf = true) :
    Calls Tryd.prog 4 #[.int .i64 host, .int .i64 vm, .int .u32 a] w fun e w' => e = .returned (.bool true) ∧ Below w.heap.size w w' := by
  obtain ⟨n, rfl, hn⟩ := u32_nat u2
  clear u2 u0 u1
  go_enter Tryd.func4, Tryd.ntmps4
  go_wp2_with fail
  (with_reducible refine (alive_any w hG).mono ?_)
  rintro e w1 ⟨rfl, hb1⟩
  go_wp2_with fail
  by_cases hd : (0 ≤ host ∧ host < 8) ∧ (0 ≤ vm ∧ vm < 16)
  · obtain ⟨h, rfl⟩ := Int.eq_ofNat_of_zero_le hd.1.1
    obtain ⟨v, rfl⟩ := Int.eq_ofNat_of_zero_le hd.2.1
    have hh : h < 8 := by omega
    have hv : v < 16 := by omega
    (with_reducible refine (dip_yes h v w1 hh hv).mono ?_)
    rintro e w2 ⟨rfl, rfl⟩
    clear hd
    go_wp2_with fail
    (with_reducible refine (rdip_any h v w2 (by omega) (by omega)).mono ?_)
    rintro e w3 ⟨rfl, rfl⟩
    generalize dipA h v = d at *
    go_wp2_with fail
    (with_reducible refine (home_any n w3 hn).mono ?_)
    rintro e w4 ⟨rfl, rfl⟩
    by_cases hm : isM n
    · have H1 : homeR n = .tuple #[.int .i64 ((48 + n / 256 % 256 : Nat) : Int), .int .i64 ((n % 256 : Nat) : Int), .bool true] := by unfold homeR; rw [if_pos hm]
      have H2 : rhomeR n = .tuple #[.int .i64 ((n / 256 % 256 : Nat) : Int), .int .i64 ((n % 256 : Nat) : Int), .bool true] := by unfold rhomeR; rw [if_pos hm]
      have hx : n / 256 % 256 < 256 := Nat.mod_lt _ (by omega)
      have hy : n % 256 < 256 := Nat.mod_lt _ (by omega)
      generalize n / 256 % 256 = x at *
      generalize n % 256 = y at *
      have hs : ((48 + x : Nat) : Int) = (x : Int) + 48 := by omega
      have HN := Lib.hid hn
      rw [H1, hs]
      clear H1 hm hn hs
      go_wp2_with fail
      (with_reducible refine (rhome_any n w4 HN.out).mono ?_)
      rintro e w5 ⟨rfl, rfl⟩
      rw [H2]
      clear H2
      go_wp2_with fail
      (with_reducible refine (isvip_any n w5 HN.out).mono ?_)
      rintro e w6 ⟨rfl, rfl⟩
      go_wp2_with fail
      (with_reducible refine (risvip_any n w6 HN.out).mono ?_)
      rintro e w7 ⟨rfl, rfl⟩
      go_wp2_with fail
      go_ret
      exact ⟨rfl, hb1⟩
    · have H1 : homeR n = .tuple #[.int .i64 0, .int .i64 0, .bool false] := by unfold homeR; rw [if_neg hm]
      have H2 : rhomeR n = .tuple #[.int .i64 0, .int .i64 0, .bool false] := by unfold rhomeR; rw [if_neg hm]
      have HN := Lib.hid hn
      rw [H1]
      clear H1 hm hn
      go_wp2_with fail
      (with_reducible refine (rhome_any n w4 HN.out).mono ?_)
      rintro e w5 ⟨rfl, rfl⟩
      rw [H2]
      clear H2
      go_wp2_with fail
      (with_reducible refine (isvip_any n w5 HN.out).mono ?_)
      rintro e w6 ⟨rfl, rfl⟩
      go_wp2_with fail
      (with_reducible refine (risvip_any n w6 HN.out).mono ?_)
      rintro e w7 ⟨rfl, rfl⟩
      go_wp2_with fail
      go_ret
      exact ⟨rfl, hb1⟩
  · (with_reducible refine (dip_no host vm w1 hd).mono ?_)
    rintro e w2 ⟨rfl, rfl⟩
    have q := er_neq 12 12 w2
    by_cases h1 : 0 ≤ host
    · have d1 : decide (0 ≤ host) = true := decide_eq_true h1
      by_cases h2 : host < 8
      · have d2 : decide (host < 8) = true := decide_eq_true h2
        by_cases h3 : 0 ≤ vm
        · have d3 : decide (0 ≤ vm) = true := decide_eq_true h3
          have d4 : decide (vm < 16) = false := decide_eq_false (by omega)
          clear hd h1 h2 h3
          go_wp2_with fail
          (with_reducible refine (home_any n w2 hn).mono ?_)
          rintro e w4 ⟨rfl, rfl⟩
          by_cases hm : isM n
          · have H1 : homeR n = .tuple #[.int .i64 ((48 + n / 256 % 256 : Nat) : Int), .int .i64 ((n % 256 : Nat) : Int), .bool true] := by unfold homeR; rw [if_pos hm]
            have H2 : rhomeR n = .tuple #[.int .i64 ((n / 256 % 256 : Nat) : Int), .int .i64 ((n % 256 : Nat) : Int), .bool true] := by unfold rhomeR; rw [if_pos hm]
            have hx : n / 256 % 256 < 256 := Nat.mod_lt _ (by omega)
            have hy : n % 256 < 256 := Nat.mod_lt _ (by omega)
            generalize n / 256 % 256 = x at *
            generalize n % 256 = y at *
            have hs : ((48 + x : Nat) : Int) = (x : Int) + 48 := by omega
            have HN := Lib.hid hn
            rw [H1, hs]
            clear H1 hm hn hs
            go_wp2_with fail
            (with_reducible refine (rhome_any n w4 HN.out).mono ?_)
            rintro e w5 ⟨rfl, rfl⟩
            rw [H2]
            clear H2
            go_wp2_with fail
            (with_reducible refine (isvip_any n w5 HN.out).mono ?_)
            rintro e w6 ⟨rfl, rfl⟩
            go_wp2_with fail
            (with_reducible refine (risvip_any n w6 HN.out).mono ?_)
            rintro e w7 ⟨rfl, rfl⟩
            go_wp2_with fail
            go_ret
            exact ⟨rfl, hb1⟩
          · have H1 : homeR n = .tuple #[.int .i64 0, .int .i64 0, .bool false] := by unfold homeR; rw [if_neg hm]
            have H2 : rhomeR n = .tuple #[.int .i64 0, .int .i64 0, .bool false] := by unfold rhomeR; rw [if_neg hm]
            have HN := Lib.hid hn
            rw [H1]
            clear H1 hm hn
            go_wp2_with fail
            (with_reducible refine (rhome_any n w4 HN.out).mono ?_)
            rintro e w5 ⟨rfl, rfl⟩
            rw [H2]
            clear H2
            go_wp2_with fail
            (with_reducible refine (isvip_any n w5 HN.out).mono ?_)
            rintro e w6 ⟨rfl, rfl⟩
            go_wp2_with fail
            (with_reducible refine (risvip_any n w6 HN.out).mono ?_)
            rintro e w7 ⟨rfl, rfl⟩
            go_wp2_with fail
            go_ret
            exact ⟨rfl, hb1⟩
        · have d3 : decide (0 ≤ vm) = false := decide_eq_false h3
          clear hd h1 h2 h3
          go_wp2_with fail
          (with_reducible refine (home_any n w2 hn).mono ?_)
          rintro e w4 ⟨rfl, rfl⟩
          by_cases hm : isM n
          · have H1 : homeR n = .tuple #[.int .i64 ((48 + n / 256 % 256 : Nat) : Int), .int .i64 ((n % 256 : Nat) : Int), .bool true] := by unfold homeR; rw [if_pos hm]
            have H2 : rhomeR n = .tuple #[.int .i64 ((n / 256 % 256 : Nat) : Int), .int .i64 ((n % 256 : Nat) : Int), .bool true] := by unfold rhomeR; rw [if_pos hm]
            have hx : n / 256 % 256 < 256 := Nat.mod_lt _ (by omega)
            have hy : n % 256 < 256 := Nat.mod_lt _ (by omega)
            generalize n / 256 % 256 = x at *
            generalize n % 256 = y at *
            have hs : ((48 + x : Nat) : Int) = (x : Int) + 48 := by omega
            have HN := Lib.hid hn
            rw [H1, hs]
            clear H1 hm hn hs
            go_wp2_with fail
            (with_reducible refine (rhome_any n w4 HN.out).mono ?_)
            rintro e w5 ⟨rfl, rfl⟩
            rw [H2]
            clear H2
            go_wp2_with fail
            (with_reducible refine (isvip_any n w5 HN.out).mono ?_)
            rintro e w6 ⟨rfl, rfl⟩
            go_wp2_with fail
            (with_reducible refine (risvip_any n w6 HN.out).mono ?_)
            rintro e w7 ⟨rfl, rfl⟩
            go_wp2_with fail
            go_ret
            exact ⟨rfl, hb1⟩
          · have H1 : homeR n = .tuple #[.int .i64 0, .int .i64 0, .bool false] := by unfold homeR; rw [if_neg hm]
            have H2 : rhomeR n = .tuple #[.int .i64 0, .int .i64 0, .bool false] := by unfold rhomeR; rw [if_neg hm]
            have HN := Lib.hid hn
            rw [H1]
            clear H1 hm hn
            go_wp2_with fail
            (with_reducible refine (rhome_any n w4 HN.out).mono ?_)
            rintro e w5 ⟨rfl, rfl⟩
            rw [H2]
            clear H2
            go_wp2_with fail
            (with_reducible refine (isvip_any n w5 HN.out).mono ?_)
            rintro e w6 ⟨rfl, rfl⟩
            go_wp2_with fail
            (with_reducible refine (risvip_any n w6 HN.out).mono ?_)
            rintro e w7 ⟨rfl, rfl⟩
            go_wp2_with fail
            go_ret
            exact ⟨rfl, hb1⟩
      · have d2 : decide (host < 8) = false := decide_eq_false h2
        clear hd h1 h2
        go_wp2_with fail
        (with_reducible refine (home_any n w2 hn).mono ?_)
        rintro e w4 ⟨rfl, rfl⟩
        by_cases hm : isM n
        · have H1 : homeR n = .tuple #[.int .i64 ((48 + n / 256 % 256 : Nat) : Int), .int .i64 ((n % 256 : Nat) : Int), .bool true] := by unfold homeR; rw [if_pos hm]
          have H2 : rhomeR n = .tuple #[.int .i64 ((n / 256 % 256 : Nat) : Int), .int .i64 ((n % 256 : Nat) : Int), .bool true] := by unfold rhomeR; rw [if_pos hm]
          have hx : n / 256 % 256 < 256 := Nat.mod_lt _ (by omega)
          have hy : n % 256 < 256 := Nat.mod_lt _ (by omega)
          generalize n / 256 % 256 = x at *
          generalize n % 256 = y at *
          have hs : ((48 + x : Nat) : Int) = (x : Int) + 48 := by omega
          have HN := Lib.hid hn
          rw [H1, hs]
          clear H1 hm hn hs
          go_wp2_with fail
          (with_reducible refine (rhome_any n w4 HN.out).mono ?_)
          rintro e w5 ⟨rfl, rfl⟩
          rw [H2]
          clear H2
          go_wp2_with fail
          (with_reducible refine (isvip_any n w5 HN.out).mono ?_)
          rintro e w6 ⟨rfl, rfl⟩
          go_wp2_with fail
          (with_reducible refine (risvip_any n w6 HN.out).mono ?_)
          rintro e w7 ⟨rfl, rfl⟩
          go_wp2_with fail
          go_ret
          exact ⟨rfl, hb1⟩
        · have H1 : homeR n = .tuple #[.int .i64 0, .int .i64 0, .bool false] := by unfold homeR; rw [if_neg hm]
          have H2 : rhomeR n = .tuple #[.int .i64 0, .int .i64 0, .bool false] := by unfold rhomeR; rw [if_neg hm]
          have HN := Lib.hid hn
          rw [H1]
          clear H1 hm hn
          go_wp2_with fail
          (with_reducible refine (rhome_any n w4 HN.out).mono ?_)
          rintro e w5 ⟨rfl, rfl⟩
          rw [H2]
          clear H2
          go_wp2_with fail
          (with_reducible refine (isvip_any n w5 HN.out).mono ?_)
          rintro e w6 ⟨rfl, rfl⟩
          go_wp2_with fail
          (with_reducible refine (risvip_any n w6 HN.out).mono ?_)
          rintro e w7 ⟨rfl, rfl⟩
          go_wp2_with fail
          go_ret
          exact ⟨rfl, hb1⟩
    · have d1 : decide (0 ≤ host) = false := decide_eq_false h1
      clear hd h1
      go_wp2_with fail
      (with_reducible refine (home_any n w2 hn).mono ?_)
      rintro e w4 ⟨rfl, rfl⟩
      by_cases hm : isM n
      · have H1 : homeR n = .tuple #[.int .i64 ((48 + n / 256 % 256 : Nat) : Int), .int .i64 ((n % 256 : Nat) : Int), .bool true] := by unfold homeR; rw [if_pos hm]
        have H2 : rhomeR n = .tuple #[.int .i64 ((n / 256 % 256 : Nat) : Int), .int .i64 ((n % 256 : Nat) : Int), .bool true] := by unfold rhomeR; rw [if_pos hm]
        have hx : n / 256 % 256 < 256 := Nat.mod_lt _ (by omega)
        have hy : n % 256 < 256 := Nat.mod_lt _ (by omega)
        generalize n / 256 % 256 = x at *
        generalize n % 256 = y at *
        have hs : ((48 + x : Nat) : Int) = (x : Int) + 48 := by omega
        have HN := Lib.hid hn
        rw [H1, hs]
        clear H1 hm hn hs
        go_wp2_with fail
        (with_reducible refine (rhome_any n w4 HN.out).mono ?_)
        rintro e w5 ⟨rfl, rfl⟩
        rw [H2]
        clear H2
        go_wp2_with fail
        (with_reducible refine (isvip_any n w5 HN.out).mono ?_)
        rintro e w6 ⟨rfl, rfl⟩
        go_wp2_with fail
        (with_reducible refine (risvip_any n w6 HN.out).mono ?_)
        rintro e w7 ⟨rfl, rfl⟩
        go_wp2_with fail
        go_ret
        exact ⟨rfl, hb1⟩
      · have H1 : homeR n = .tuple #[.int .i64 0, .int .i64 0, .bool false] := by unfold homeR; rw [if_neg hm]
        have H2 : rhomeR n = .tuple #[.int .i64 0, .int .i64 0, .bool false] := by unfold rhomeR; rw [if_neg hm]
        have HN := Lib.hid hn
        rw [H1]
        clear H1 hm hn
        go_wp2_with fail
        (with_reducible refine (rhome_any n w4 HN.out).mono ?_)
        rintro e w5 ⟨rfl, rfl⟩
        rw [H2]
        clear H2
        go_wp2_with fail
        (with_reducible refine (isvip_any n w5 HN.out).mono ?_)
        rintro e w6 ⟨rfl, rfl⟩
        go_wp2_with fail
        (with_reducible refine (risvip_any n w6 HN.out).mono ?_)
        rintro e w7 ⟨rfl, rfl⟩
        go_wp2_with fail
        go_ret
        exact ⟨rfl, hb1⟩
end Go.Proofs.YtfhdkcdhfdapbaaDoor
