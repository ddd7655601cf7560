/- The walk of QueueNone. -/
import Derived.Test.YtkgkbmiacomhdaaQuNil
import Derived.Test.YtkgkbmiacomhdaaQuAlive
namespace Go.Proofs.Ytkgkbmiacomhdaa
set_option linter.unusedVariables false
set_option linter.unusedSimpArgs false
open Go.RowKit Go.Conc

set_option maxRecDepth 100000 in
set_option maxHeartbeats 1600000 in
theorem QueueNone_walk (xs : List UInt8) (A : Option Addr) (c : Nat) (n : Int) (w : World) (hc : xs.length ≤ c) (hA : RB w A xs) (hl : xs.length ≤ 1048576) (hn : (Lit.int .i64 n).wf = true) :
    Calls Try.prog 6 #[.slice A xs.length c, .int .i64 n] w fun e w' => e = .returned (.bool true) ∧ Below w.heap.size w w' := by
  go_enter Try.func6, Try.ntmps6
  go_wp2_with fail
  (with_reducible refine (alive_any _).mono ?_)
  rintro e w1 ⟨rfl, hb1⟩
  go_wp2_with fail
  (with_reducible refine (get_nil _).mono ?_)
  rintro e v1 ⟨rfl, rfl⟩
  go_wp2_with fail
  (with_reducible refine (lget_nil _).mono ?_)
  rintro e v2 ⟨rfl, rfl⟩
  go_wp2_with fail
  (with_reducible refine (put_nil _ _ _ _).mono ?_)
  rintro e v3 ⟨rfl, rfl⟩
  go_wp2_with fail
  (with_reducible refine (len_nil _).mono ?_)
  rintro e v4 ⟨rfl, rfl⟩
  go_wp2_with fail
  (with_reducible refine (room_nil _).mono ?_)
  rintro e v5 ⟨rfl, rfl⟩
  go_wp2_with fail
  (with_reducible refine (drain_nil _).mono ?_)
  rintro e v6 ⟨rfl, rfl⟩
  go_wp2_with fail
  (with_reducible refine (urgent_nil _ _ _ _).mono ?_)
  rintro e v7 ⟨rfl, rfl⟩
  go_wp2_with fail
  (with_reducible refine (plain_nil _ _ _ _).mono ?_)
  rintro e v8 ⟨rfl, rfl⟩
  go_wp2_with fail
  (with_reducible refine (llen_nil _).mono ?_)
  rintro e v9 ⟨rfl, rfl⟩
  go_wp2_with fail
  (with_reducible refine (take_nil _ _).mono ?_)
  rintro e v10 ⟨rfl, rfl⟩
  go_wp2_with fail
  go_ret
  exact ⟨rfl, below_al (below_al (below_al hb1 _) _) _⟩
end Go.Proofs.Ytkgkbmiacomhdaa
