/- The walk of FabricNone. -/
import Derived.Test.YtikichifdkgobaaFabAlive
namespace Go.Proofs.Ytikichifdkgobaa
set_option linter.unusedVariables false
set_option linter.unusedSimpArgs false
open Go.RowKit

set_option maxRecDepth 100000 in
set_option maxHeartbeats 1600000 in
theorem FabricNone_walk (n : Int) (xs : List UInt8) (A : Option Addr) (c : Nat) (w : World) (hn : (Lit.int .i64 n).wf = true) (hc : xs.length ≤ c) (hA : RB w A xs) (hl : xs.length ≤ 1048576) :
    Calls Try.prog 8 #[.int .i64 n, .slice A xs.length c] w fun e w' => e = .returned (.bool true) ∧ Below w.heap.size w w' := by
  go_enter Try.func8, Try.ntmps8
  go_wp2_with fail
  (with_reducible refine (alive_any _).mono ?_)
  rintro e w1 ⟨rfl, hb1⟩
  go_wp2_with fail
  (with_reducible refine (send_nil 0 16 false A xs.length c w1 (by unfold IsN; omega) (by unfold IsN; omega)).mono ?_)
  rintro e w2 ⟨rfl, hb2⟩
  have hc2 := below_call hb1 hb2
  clear hb1 hb2
  go_wp2_with fail
  (with_reducible refine (nth_nil n w2).mono ?_)
  rintro e w3 ⟨rfl, hb3⟩
  have hc3 := below_al (below_call hc2 hb3) (.cells #[.int .i64 0, .int .i64 0, .int .i64 0, .bool false, .slice none 0 0] 37)
  go_wp2_with fail
  generalize (w3.alloc (.cells #[.int .i64 0, .int .i64 0, .int .i64 0, .bool false, .slice none 0 0] 37)) = v3 at *
  (with_reducible refine (take_nil n v3).mono ?_)
  rintro e w4 ⟨rfl, hb4⟩
  have hc4 := below_al (below_call hc3 hb4) (.cells #[.int .i64 0, .int .i64 0, .int .i64 0, .bool false, .slice none 0 0] 37)
  go_wp2_with fail
  generalize (w4.alloc (.cells #[.int .i64 0, .int .i64 0, .int .i64 0, .bool false, .slice none 0 0] 37)) = v4 at *
  (with_reducible refine (copy_nil n v4).mono ?_)
  rintro e w5 ⟨rfl, hb5⟩
  have hc5 := below_call hc4 hb5
  have q5 := er_eql 5 5 w5
  have q6 := er_eql 6 6 w5
  go_wp2_with fail
  (with_reducible refine (flen_nil _).mono ?_)
  rintro e w6 ⟨rfl, rfl⟩
  go_wp2_with fail
  (with_reducible refine (waiting_nil _).mono ?_)
  rintro e w7 ⟨rfl, rfl⟩
  go_wp2_with fail
  (with_reducible refine (between_nil 0 16 _).mono ?_)
  rintro e w8 ⟨rfl, rfl⟩
  go_wp2_with fail
  go_ret
  exact ⟨rfl, hc5⟩
end Go.Proofs.Ytikichifdkgobaa
