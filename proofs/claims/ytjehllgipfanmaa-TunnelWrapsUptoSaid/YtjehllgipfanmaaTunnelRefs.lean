/- The walks of TunnelWraps, TunnelUnwraps. -/
import Derived.Test.YtjehllgipfanmaaRefUnwrap
import Derived.Test.YtjehllgipfanmaaTunnelBackWalk
import Derived.Test.YtjehllgipfanmaaCopy
namespace Go.Proofs.Ytjehllgipfanmaa
set_option linter.unusedVariables false
set_option linter.unusedSimpArgs false
open Go.RowKit

theorem own_marked {w : World} {g base n : Nat} {xs : List UInt8} (hn : xs.length = n) (h : Blk w g 5 ((marked xs).map bv)) (hb : base ≤ g) (hl : n ≤ 4000000) : w.ownsRow base 5 1 (.slice (some ⟨g, 0, none⟩) n (n + 2)) n (xs.map bv) := by
  subst hn
  exact ⟨by simp, .inr ⟨g, xs.length + 2, ((marked xs).map bv).toArray, rfl, hb, h, by omega, by unfold maxLen; omega, by simp [marked], by simp [marked]⟩⟩
theorem kept_n (xs : List UInt8) (g : Nat) (A : Option Addr) (n c : Nat) (w : World) (hn : xs.length = n) (hA : RB w A xs) (hg : Blk w g 5 ((marked xs).map bv)) (hl : n ≤ 4000000) :
    Calls Try.prog 13 #[.slice (some ⟨g, 0, none⟩) n (n + 2), .slice A n c] w fun e w' => e = .returned (.bool true) ∧ Below w.heap.size w w' := by
  subst hn
  exact kept_any xs g A c w hA hg hl
theorem copy_n (xs : List UInt8) (A : Option Addr) (n c : Nat) (w : World) (hn : xs.length = n) (hA : RB w A xs) (hc : n ≤ c) (hl : n ≤ 4000000) :
    Calls Try.prog 9 #[.slice A n c] w fun e w' => ∃ g, e = .returned (.slice (some ⟨g, 0, none⟩) n (n + 2)) ∧ w.heap.size ≤ g ∧ Blk w' g 5 ((marked xs).map bv) ∧ Below w.heap.size w w' := by
  subst hn
  exact copy_any xs A c w hA hc hl
set_option maxRecDepth 100000 in
set_option maxHeartbeats 6400000 in
theorem TunnelWraps_walk (src dst : Int) (b : List UInt8) (A : Option Addr) (c : Nat) (w : World) (hs : U32 src) (hd2 : U32 dst) (hc : b.length ≤ c) (hA : RB w A b) (hbl : b.length ≤ 1048576) :
    Calls Try.prog 3 #[.int .u32 src, .int .u32 dst, .slice A b.length c] w fun e w' => e = .returned (.bool true) ∧ Below w.heap.size w w' := by
  go_enter Try.func3, Try.ntmps3
  go_wp2_with fail
  (with_reducible refine (alive_any w).mono ?_)
  rintro e w1 ⟨rfl, hw1⟩
  have hs1 := hw1.size
  obtain ⟨n, hn⟩ : ∃ n, n = b.length := ⟨_, rfl⟩
  rw [← hn] at hc hbl ⊢
  have HN := Lib.hid hn.symm
  clear hn
  go_wp2_with fail
  (with_reducible refine (copy_n b A n c w1 HN.out (hA.below hw1) hc (by omega)).mono ?_)
  rintro e w2 ⟨gd, rfl, hgd, hK2, hb2⟩
  have hw2 := below_call hw1 hb2
  have hs2 := hb2.size
  have hgl := hK2.lt
  clear hb2
  by_cases hp : IsPk b (opn b)
  · have HP := Lib.hid hp
    clear hp
    by_cases hbig : 1480 < n
    · go_wp2_with fail
      (with_reducible refine (wrap_big src dst b (opn b) (some ⟨gd, 0, none⟩) n (n + 2) w2 HN.out (marked_rb hK2) (by omega) HP.out hbig).mono ?_)
      rintro e w3 ⟨rfl, hb3⟩
      have hK3 := hK2.kept hb3
      have hw3 := below_call hw2 hb3
      go_wp2_with fail
      (with_reducible refine (rwrap_big src dst b A n c w3 HN.out (hA.below hw3) hc HP.out hbig).mono ?_)
      rintro e w4 ⟨rfl, hb4⟩
      have hK4 := hK3.kept hb4
      have hw4 := below_call hw3 hb4
      clear hK3 hb4 hb3
      have hR0 : RB w4 none [] := fun j u hu => by simp at hu
      have s1 := run_str (P := Try.prog) _ _ _ _ Try.underlying24 Try.underlying5 Try.underlying9 none 0 0 [] hR0 rfl
      go_wp2_with fail
      (with_reducible refine (num_er 4 (by omega) w4).mono ?_)
      rintro e w5 ⟨rfl, rfl⟩
      clear s1
      go_wp2_with fail
      (with_reducible refine (kept_n b gd A n c w5 HN.out (hA.below hw4) hK4 (by omega)).mono ?_)
      rintro e w6 ⟨rfl, hb6⟩
      have hK6 := hK4.kept hb6
      have hw6 := below_call hw4 hb6
      have hs6 := hw6.size
      clear hK4 hb6
      go_wp2_with fail
      (with_reducible refine (apart2 w.heap.size _ _ 0 n _ _ 24 w6 (by omega) (by omega) (by omega) (World.ownsRow_nil _ _ _ _) (own_marked HN.out hK6 (by omega) (by omega)) (fun k e => by simp [Value.ownBlock] at e) rfl).mono ?_)
      rintro e w7 ⟨rfl, hb7⟩
      have hw7 : Below w.heap.size w w7 := (below_al hw6 _).trans hb7
      go_wp2_with fail
      go_ret
      exact ⟨rfl, hw7⟩
    · go_wp2_with fail
      (with_reducible refine (wrap_good src dst b (opn b) (some ⟨gd, 0, none⟩) n (n + 2) w2 hs hd2 HN.out (marked_rb hK2) (by omega) HP.out (by omega)).mono ?_)
      rintro e w3 ⟨v3, rfl, hO3, hb3⟩
      have hK3 := hK2.kept hb3
      have hw3 := below_call hw2 hb3
      have hs3 := hb3.size
      have HWL : Hid ((wrapB src dst b).length = 20 + n) := by show _ = _; rw [wrapB_len, HN.out]
      obtain ⟨m, hm⟩ : ∃ m, m = 20 + n := ⟨_, rfl⟩
      have hm1 : m ≤ 1500 := by omega
      rw [← hm] at hO3 HWL
      have HM := Lib.hid hm
      clear hm
      obtain ⟨X3, k3, rfl, -, hR3, -⟩ := own_form hO3
      replace hR3 : RB w3 X3 (wrapB src dst b) := hR3
      have HO3 := Lib.hid hO3
      clear hO3
      go_wp2_with fail
      (with_reducible refine (rwrap_good src dst b A n c w3 hs hd2 HN.out (hA.below hw3) hc HP.out (by omega)).mono ?_)
      rintro e w4 ⟨v4, rfl, hO4, hb4⟩
      rw [← HM.out] at hO4
      obtain ⟨X4, k4, rfl, -, hR4, -⟩ := own_form hO4
      replace hR4 : RB w4 X4 (wrapB src dst b) := hR4
      have hR34 := hR3.below hb4
      have hK4 := hK3.kept hb4
      have hw4 := below_call hw3 hb4
      have hs4 := hb4.size
      have HO34 := Lib.hid (own_below HO3.out hb4)
      clear hO4 hK3 hb3 hR3 HO3
      generalize wrapB src dst b = wq at *
      have s1 := run_str (P := Try.prog) _ _ _ _ Try.underlying24 Try.underlying5 Try.underlying9 _ m k3 _ hR34 HWL.out
      have s2 := run_str (P := Try.prog) _ _ _ _ Try.underlying24 Try.underlying5 Try.underlying9 _ m k4 _ hR4 HWL.out
      go_wp2_with fail
      (with_reducible refine (num_nil w4).mono ?_)
      rintro e w5 ⟨rfl, rfl⟩
      clear s1 s2
      go_wp2_with fail
      (with_reducible refine (kept_n b gd A n c w5 HN.out (hA.below hw4) hK4 (by omega)).mono ?_)
      rintro e w6 ⟨rfl, hb6⟩
      have hK6 := hK4.kept hb6
      have hw6 := below_call hw4 hb6
      have hs6 := hb6.size
      have HO6 := Lib.hid (own_weaken (own_below HO34.out hb6) (show w.heap.size ≤ w2.heap.size by omega))
      have HX : Hid (∀ k, (Value.slice X3 m k3).ownBlock = some k → w2.heap.size ≤ k) := fun k e => (own_lt HO34.out e).1
      clear hK4 hb6 HO34
      go_wp2_with fail
      (with_reducible refine (apart2 w.heap.size _ _ m n _ _ 24 w6 (by omega) (by omega) (by omega) HO6.out (own_marked HN.out hK6 (by omega) (by omega)) (fun k e e2 => by have := HX.out k e; simp [Value.ownBlock] at e2; omega) rfl).mono ?_)
      rintro e w7 ⟨rfl, hb7⟩
      have hw7 : Below w.heap.size w w7 := (below_al hw6 _).trans hb7
      go_wp2_with fail
      go_ret
      exact ⟨rfl, hw7⟩
  · have HNO := Lib.hid (fun q (hq : IsPk b q) => hp (isPk_any hq))
    have HNP := Lib.hid hp
    clear hp
    go_wp2_with fail
    (with_reducible refine (wrap_no src dst b (some ⟨gd, 0, none⟩) n (n + 2) w2 HN.out (marked_rb hK2) (by omega) HNO.out).mono ?_)
    rintro e w3 ⟨rfl, hb3⟩
    have hK3 := hK2.kept hb3
    have hw3 := below_call hw2 hb3
    go_wp2_with fail
    (with_reducible refine (rwrap_no src dst b A n c w3 HN.out (hA.below hw3) hc (by omega) HNP.out).mono ?_)
    rintro e w4 ⟨rfl, hb4⟩
    have hK4 := hK3.kept hb4
    have hw4 := below_call hw3 hb4
    clear hK3 hb4 hb3
    have hR0 : RB w4 none [] := fun j u hu => by simp at hu
    have s1 := run_str (P := Try.prog) _ _ _ _ Try.underlying24 Try.underlying5 Try.underlying9 none 0 0 [] hR0 rfl
    go_wp2_with fail
    (with_reducible refine (num_er 2 (by omega) w4).mono ?_)
    rintro e w5 ⟨rfl, rfl⟩
    clear s1
    go_wp2_with fail
    (with_reducible refine (kept_n b gd A n c w5 HN.out (hA.below hw4) hK4 (by omega)).mono ?_)
    rintro e w6 ⟨rfl, hb6⟩
    have hK6 := hK4.kept hb6
    have hw6 := below_call hw4 hb6
    have hs6 := hw6.size
    clear hK4 hb6
    go_wp2_with fail
    (with_reducible refine (apart2 w.heap.size _ _ 0 n _ _ 24 w6 (by omega) (by omega) (by omega) (World.ownsRow_nil _ _ _ _) (own_marked HN.out hK6 (by omega) (by omega)) (fun k e => by simp [Value.ownBlock] at e) rfl).mono ?_)
    rintro e w7 ⟨rfl, hb7⟩
    have hw7 : Below w.heap.size w w7 := (below_al hw6 _).trans hb7
    go_wp2_with fail
    go_ret
    exact ⟨rfl, hw7⟩
theorem TunnelWrapsX_walk (src dst : Int) (b : List UInt8) (A : Option Addr) (c : Nat) (w : World) (u0 : (Lit.int .u32 src).wf = true) (u1 : (Lit.int .u32 dst).wf = true) (hc : b.length ≤ c) (hA : RB w A b) (lb : b.length ≤ 1048576) :
    Calls Try.prog 3 #[.int .u32 src, .int .u32 dst, .slice A b.length c] w fun e w' => e = .returned (.bool true) ∧ Below w.heap.size w w' :=
  TunnelWraps_walk src dst b A c w (u32w u0) (u32w u1) hc hA lb
set_option maxRecDepth 100000 in
set_option maxHeartbeats 6400000 in
theorem TunnelUnwraps_walk (b : List UInt8) (A : Option Addr) (c : Nat) (w : World) (hc : b.length ≤ c) (hA : RB w A b) (hbl : b.length ≤ 1048576) :
    Calls Try.prog 4 #[.slice A b.length c] w fun e w' => e = .returned (.bool true) ∧ Below w.heap.size w w' := by
  go_enter Try.func4, Try.ntmps4
  go_wp2_with fail
  (with_reducible refine (alive_any w).mono ?_)
  rintro e w1 ⟨rfl, hw1⟩
  have hs1 := hw1.size
  obtain ⟨n, hn⟩ : ∃ n, n = b.length := ⟨_, rfl⟩
  rw [← hn] at hc hbl ⊢
  have HN := Lib.hid hn.symm
  clear hn
  go_wp2_with fail
  (with_reducible refine (copy_n b A n c w1 HN.out (hA.below hw1) hc (by omega)).mono ?_)
  rintro e w2 ⟨gd, rfl, hgd, hK2, hb2⟩
  have hw2 := below_call hw1 hb2
  have hs2 := hb2.size
  have hgl := hK2.lt
  clear hb2
  by_cases hW : IsWb b
  · have HW := Lib.hid hW
    clear hW
    go_wp2_with fail
    (with_reducible refine (unwrap_any b (some ⟨gd, 0, none⟩) n (n + 2) w2 HN.out (marked_rb hK2) (by omega) (by omega)).mono ?_)
    rintro e w3 ⟨⟨-, v3, rfl, hO3⟩ | ⟨h, rfl⟩, hb3⟩
    rotate_left
    · exact absurd HW.out h
    rw [HN.out] at hO3
    obtain ⟨m, hm⟩ : ∃ m, m = n - 20 := ⟨_, rfl⟩
    have hm1 : m ≤ 1048576 := by omega
    rw [← hm] at hO3
    have HM := Lib.hid hm
    have HDL : Hid ((b.drop 20).length = m) := by show _ = _; rw [List.length_drop, HN.out, hm]
    clear hm
    obtain ⟨X3, k3, rfl, -, hR3, -⟩ := own_form hO3
    replace hR3 : RB w3 X3 (b.drop 20) := hR3
    have HO3 := Lib.hid hO3
    have hK3 := hK2.kept hb3
    have hw3 := below_call hw2 hb3
    have hs3 := hb3.size
    clear hO3 hb3
    go_wp2_with fail
    (with_reducible refine (runwrap_any b A n c w3 HN.out (hA.below hw3) hc (by omega)).mono ?_)
    rintro e w4 ⟨⟨-, v4, rfl, hO4⟩ | ⟨h, rfl⟩, hb4⟩
    rotate_left
    · exact absurd HW.out h
    rw [HN.out, ← HM.out] at hO4
    obtain ⟨X4, k4, rfl, -, hR4, -⟩ := own_form hO4
    replace hR4 : RB w4 X4 (b.drop 20) := hR4
    have hR34 := hR3.below hb4
    have hK4 := hK3.kept hb4
    have hw4 := below_call hw3 hb4
    have hs4 := hb4.size
    have HO34 := Lib.hid (own_below HO3.out hb4)
    clear hO4 hK3 hR3 HO3 hb4
    generalize b.drop 20 = wq at *
    have s1 := run_str (P := Try.prog) _ _ _ _ Try.underlying24 Try.underlying5 Try.underlying9 _ m k3 _ hR34 HDL.out
    have s2 := run_str (P := Try.prog) _ _ _ _ Try.underlying24 Try.underlying5 Try.underlying9 _ m k4 _ hR4 HDL.out
    go_wp2_with fail
    (with_reducible refine (num_nil w4).mono ?_)
    rintro e w5 ⟨rfl, rfl⟩
    clear s1 s2
    go_wp2_with fail
    (with_reducible refine (is_yes b (some ⟨gd, 0, none⟩) n (n + 2) w5 HN.out (marked_rb hK4) (by omega) (by omega) HW.out).mono ?_)
    rintro e w6 ⟨rfl, hb6⟩
    have hK6 := hK4.kept hb6
    have hw6 := below_call hw4 hb6
    have hs6 := hb6.size
    have HO6 := Lib.hid (own_below HO34.out hb6)
    clear hK4 hb6 HO34
    go_wp2_with fail
    (with_reducible refine (kept_n b gd A n c w6 HN.out (hA.below hw6) hK6 (by omega)).mono ?_)
    rintro e w7 ⟨rfl, hb7⟩
    have hK7 := hK6.kept hb7
    have hw7 := below_call hw6 hb7
    have hs7 := hb7.size
    have HO7 := Lib.hid (own_weaken (own_below HO6.out hb7) (show w.heap.size ≤ w2.heap.size by omega))
    have HX : Hid (∀ k, (Value.slice X3 m k3).ownBlock = some k → w2.heap.size ≤ k) := fun k e => (own_lt HO6.out e).1
    clear hK6 hb7 HO6
    go_wp2_with fail
    (with_reducible refine (apart2 w.heap.size _ _ m n _ _ 24 w7 (by omega) (by omega) (by omega) HO7.out (own_marked HN.out hK7 (by omega) (by omega)) (fun k e e2 => by have := HX.out k e; simp [Value.ownBlock] at e2; omega) rfl).mono ?_)
    rintro e w8 ⟨rfl, hb8⟩
    have hw8 : Below w.heap.size w w8 := (below_al hw7 _).trans hb8
    go_wp2_with fail
    go_ret
    exact ⟨rfl, hw8⟩
  · have HW := Lib.hid hW
    clear hW
    go_wp2_with fail
    (with_reducible refine (unwrap_any b (some ⟨gd, 0, none⟩) n (n + 2) w2 HN.out (marked_rb hK2) (by omega) (by omega)).mono ?_)
    rintro e w3 ⟨⟨h, -⟩ | ⟨-, rfl⟩, hb3⟩
    · exact absurd h HW.out
    have hK3 := hK2.kept hb3
    have hw3 := below_call hw2 hb3
    have hs3 := hb3.size
    clear hb3
    go_wp2_with fail
    (with_reducible refine (runwrap_any b A n c w3 HN.out (hA.below hw3) hc (by omega)).mono ?_)
    rintro e w4 ⟨⟨h, -⟩ | ⟨-, rfl⟩, hb4⟩
    · exact absurd h HW.out
    have hK4 := hK3.kept hb4
    have hw4 := below_call hw3 hb4
    have hs4 := hb4.size
    clear hb4 hK3
    have hR0 : RB w4 none [] := fun j u hu => by simp at hu
    have s1 := run_str (P := Try.prog) _ _ _ _ Try.underlying24 Try.underlying5 Try.underlying9 none 0 0 [] hR0 rfl
    go_wp2_with fail
    (with_reducible refine (num_er 2 (by omega) w4).mono ?_)
    rintro e w5 ⟨rfl, rfl⟩
    clear s1
    go_wp2_with fail
    (with_reducible refine (is_no b (some ⟨gd, 0, none⟩) n (n + 2) w5 HN.out (marked_rb hK4) (by omega) (by omega) HW.out).mono ?_)
    rintro e w6 ⟨rfl, hb6⟩
    have hK6 := hK4.kept hb6
    have hw6 := below_call hw4 hb6
    have hs6 := hb6.size
    clear hK4 hb6
    go_wp2_with fail
    (with_reducible refine (kept_n b gd A n c w6 HN.out (hA.below hw6) hK6 (by omega)).mono ?_)
    rintro e w7 ⟨rfl, hb7⟩
    have hK7 := hK6.kept hb7
    have hw7 := below_call hw6 hb7
    have hs7 := hb7.size
    clear hK6 hb7
    go_wp2_with fail
    (with_reducible refine (apart2 w.heap.size _ _ 0 n _ _ 24 w7 (by omega) (by omega) (by omega) (World.ownsRow_nil _ _ _ _) (own_marked HN.out hK7 (by omega) (by omega)) (fun k e => by simp [Value.ownBlock] at e) rfl).mono ?_)
    rintro e w8 ⟨rfl, hb8⟩
    have hw8 : Below w.heap.size w w8 := (below_al hw7 _).trans hb8
    go_wp2_with fail
    go_ret
    exact ⟨rfl, hw8⟩
end Go.Proofs.Ytjehllgipfanmaa
