/- Flows as values; which are in form: the walks of addr.Check and towpathref01.Good. -/
import Derived.Test.YtbhdjalpkecbeaaEr
import Derived.Test.YtbhdjalpkecbeaaGrow
import Derived.Test.YtbhdjalpkecbeaaFls
namespace Go.Proofs.Ytbhdjalpkecbeaa
set_option linter.unusedVariables false
set_option linter.unusedSimpArgs false
open Go.RowKit

abbrev flc (f : Fl) : List Value := [.int .i64 f.proto, .int .u32 f.src, .int .i64 f.sp, .int .u32 f.dst, .int .i64 f.dp]
abbrev flv (f : Fl) : Value := .agg #[.int .i64 f.proto, .int .u32 f.src, .int .i64 f.sp, .int .u32 f.dst, .int .i64 f.dp]

set_option maxHeartbeats 1600000 in
theorem acheck_good (f : Fl) (w : World) (h : GoodF f) : Calls Try.prog 32 #[flv f] w fun e w' => e = .returned .nilIface ∧ Below w.heap.size w w' := by
  obtain ⟨p, s, sp, d, dp⟩ := f
  obtain ⟨h1, ⟨h2, h3⟩, h4, h5⟩ := h
  simp only at h1 h2 h3 h4 h5
  rcases h1 with h1 | h1
  all_goals
    subst h1
    go_enter Try.func32, Try.ntmps32
    go_wp2
    go_ret
    exact ⟨rfl, (Below.refl _ _).alloc (Nat.le_refl _) _⟩
set_option maxHeartbeats 3200000 in
theorem acheck_bad (f : Fl) (w : World) (h : ¬ GoodF f) : Calls Try.prog 32 #[flv f] w fun e w' => e = .returned (er 9) ∧ Below w.heap.size w w' := by
  obtain ⟨p, s, sp, d, dp⟩ := f
  have h2 : (p ≠ 6 ∧ p ≠ 17) ∨ ((p = 6 ∨ p = 17) ∧ (sp < 0 ∨ 65535 < sp ∨ ((0 ≤ sp ∧ sp ≤ 65535) ∧ dp < 0) ∨ ((0 ≤ sp ∧ sp ≤ 65535) ∧ 65535 < dp))) := by unfold GoodF at h; simp only at h; omega
  clear h
  rcases h2 with ⟨h1, h2⟩ | ⟨h1, h2⟩
  · have e1 : (p == 6) = false := by simpa using h1
    have e2 : (p == 17) = false := by simpa using h2
    have e3 : (p != 6) = true := by simpa using h1
    have e4 : (p != 17) = true := by simpa using h2
    clear h1 h2
    go_enter Try.func32, Try.ntmps32
    go_wp2
    go_ret
    exact ⟨rfl, (Below.refl _ _).alloc (Nat.le_refl _) _⟩
  · rcases h1 with h1 | h1
    all_goals
      subst h1
      rcases h2 with h2 | h2 | ⟨⟨h2, h3⟩, h4⟩ | ⟨⟨h2, h3⟩, h4⟩
      rotate_left
      · have q1 : decide (sp ≤ 65535) = false := decide_eq_false (by omega)
        have q2 : decide (sp < 65536) = false := decide_eq_false (by omega)
        go_enter Try.func32, Try.ntmps32
        go_wp2
        go_ret
        exact ⟨rfl, (Below.refl _ _).alloc (Nat.le_refl _) _⟩
      rotate_left
      · have q1 : decide (dp ≤ 65535) = false := decide_eq_false (by omega)
        have q2 : decide (dp < 65536) = false := decide_eq_false (by omega)
        go_enter Try.func32, Try.ntmps32
        go_wp2
        go_ret
        exact ⟨rfl, (Below.refl _ _).alloc (Nat.le_refl _) _⟩
      all_goals
        go_enter Try.func32, Try.ntmps32
        go_wp2
        go_ret
        exact ⟨rfl, (Below.refl _ _).alloc (Nat.le_refl _) _⟩
set_option maxHeartbeats 1600000 in
theorem fgood_good (f : Fl) (w : World) (h : GoodF f) : Calls Try.prog 34 #[flv f] w fun e w' => e = .returned (.bool true) ∧ Below w.heap.size w w' := by
  obtain ⟨p, s, sp, d, dp⟩ := f
  obtain ⟨h1, ⟨h2, h3⟩, h4, h5⟩ := h
  simp only at h1 h2 h3 h4 h5
  rcases h1 with h1 | h1
  all_goals
    subst h1
    go_enter Try.func34, Try.ntmps34
    go_wp2
    go_ret
    exact ⟨by simp; omega, (Below.refl _ _).alloc (Nat.le_refl _) _⟩
set_option maxHeartbeats 3200000 in
theorem fgood_bad (f : Fl) (w : World) (h : ¬ GoodF f) : Calls Try.prog 34 #[flv f] w fun e w' => e = .returned (.bool false) ∧ Below w.heap.size w w' := by
  obtain ⟨p, s, sp, d, dp⟩ := f
  have h2 : (p ≠ 6 ∧ p ≠ 17) ∨ ((p = 6 ∨ p = 17) ∧ (sp < 0 ∨ 65535 < sp ∨ ((0 ≤ sp ∧ sp ≤ 65535) ∧ dp < 0) ∨ ((0 ≤ sp ∧ sp ≤ 65535) ∧ 65535 < dp))) := by unfold GoodF at h; simp only at h; omega
  clear h
  rcases h2 with ⟨h1, h2⟩ | ⟨h1, h2⟩
  · have e1 : (p == 6) = false := by simpa using h1
    have e2 : (p == 17) = false := by simpa using h2
    have e3 : (p != 6) = true := by simpa using h1
    have e4 : (p != 17) = true := by simpa using h2
    clear h1 h2
    go_enter Try.func34, Try.ntmps34
    go_wp2
    go_ret
    exact ⟨rfl, (Below.refl _ _).alloc (Nat.le_refl _) _⟩
  · rcases h1 with h1 | h1
    all_goals
      subst h1
      rcases h2 with h2 | h2 | ⟨⟨h2, h3⟩, h4⟩ | ⟨⟨h2, h3⟩, h4⟩
      rotate_left
      · have q1 : decide (sp ≤ 65535) = false := decide_eq_false (by omega)
        have q2 : decide (sp < 65536) = false := decide_eq_false (by omega)
        go_enter Try.func34, Try.ntmps34
        go_wp2
        go_ret
        exact ⟨rfl, (Below.refl _ _).alloc (Nat.le_refl _) _⟩
      rotate_left
      · have q1 : decide (dp ≤ 65535) = false := decide_eq_false (by omega)
        have q2 : decide (dp < 65536) = false := decide_eq_false (by omega)
        go_enter Try.func34, Try.ntmps34
        go_wp2
        go_ret
        exact ⟨rfl, (Below.refl _ _).alloc (Nat.le_refl _) _⟩
      all_goals
        go_enter Try.func34, Try.ntmps34
        go_wp2
        go_ret
        exact ⟨rfl, (Below.refl _ _).alloc (Nat.le_refl _) _⟩
end Go.Proofs.Ytbhdjalpkecbeaa
