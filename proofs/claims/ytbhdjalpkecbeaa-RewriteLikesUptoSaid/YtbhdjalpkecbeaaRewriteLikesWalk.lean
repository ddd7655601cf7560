/- The walk of RewriteLikes. -/
import Derived.Test.YtbhdjalpkecbeaaRwLike
namespace Go.Proofs.Ytbhdjalpkecbeaa
set_option linter.unusedVariables false
set_option linter.unusedSimpArgs false
open Go.RowKit

set_option maxRecDepth 100000 in
set_option maxHeartbeats 3200000 in
theorem RewriteLikes_walk (a : List UInt8) (A : Option Addr) (c : Nat) (b : List UInt8) (B : Option Addr) (d : Nat) (w : World) (hc : a.length ≤ c) (hA : RB w A a) (hal : a.length ≤ 1048576) (hd : b.length ≤ d) (hB : RB w B b) (hbl : b.length ≤ 1048576) :
    Calls Try.prog 5 #[.slice A a.length c, .slice B b.length d] w fun e w' => e = .returned (.bool true) ∧ Below w.heap.size w w' := by
  obtain ⟨n, hn⟩ : ∃ n, n = a.length := ⟨_, rfl⟩
  obtain ⟨m, hm⟩ : ∃ m, m = b.length := ⟨_, rfl⟩
  rw [← hn] at hc hal ⊢
  rw [← hm] at hd hbl ⊢
  have HN := Lib.hid hn.symm
  have HM := Lib.hid hm.symm
  clear hn hm
  go_enter Try.func5, Try.ntmps5
  go_wp2_with fail
  (with_reducible refine (alive_any w).mono ?_)
  rintro e w1 ⟨rfl, hw1⟩
  go_wp2_with fail
  (with_reducible refine (like_any a b A B n c m d w1 HN.out HM.out (hA.below hw1) (hB.below hw1) hc hd (by omega) (by omega)).mono ?_)
  rintro e w2 ⟨r1, rfl, H1, hb2⟩
  have hw2 := below_call hw1 hb2
  go_wp2_with fail
  (with_reducible refine (rlike_any a b A B n c m d w2 HN.out HM.out (hA.below hw2) (hB.below hw2) hc hd (by omega) (by omega)).mono ?_)
  rintro e w3 ⟨r2, rfl, H2, hb3⟩
  have hw3 := below_call hw2 hb3
  have hr : r1 = r2 := by
    have h := H1.out.trans H2.out.symm
    cases r1 <;> cases r2 <;> simp at h ⊢
  subst hr
  have hrr : (r1 == r1) = true := by simp
  go_wp2_with fail
  go_ret
  exact ⟨rfl, hw3⟩
end Go.Proofs.Ytbhdjalpkecbeaa
