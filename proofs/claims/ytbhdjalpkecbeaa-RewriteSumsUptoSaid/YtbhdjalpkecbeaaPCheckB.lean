/- The walk of packet.Check where a packet is not in form. -/
import Derived.Test.YtbhdjalpkecbeaaPCheck
namespace Go.Proofs.Ytbhdjalpkecbeaa
set_option linter.unusedVariables false
set_option linter.unusedSimpArgs false
open Go.RowKit

set_option maxHeartbeats 6400000 in
theorem pcheck_bad (p : Pk) (B : Option Addr) (d : Nat) (w : World) (h : ¬ GoodP p) : Calls Try.prog 56 #[pkv p B d] w fun e w' => e = .returned (er 9) ∧ Below w.heap.size w w' := by
  have hh := bad_cases p h
  clear h
  obtain ⟨tos, id, ttl, ⟨proto, src, sp, dst, dp⟩, sq, ak, flags, win, data⟩ := p
  simp only at hh
  have hb0 : Below w.heap.size w (w.alloc (.cells #[.int .i64 tos, .int .i64 id, .int .i64 ttl, .int .i64 proto, .int .u32 src, .int .i64 sp, .int .u32 dst, .int .i64 dp, .int .u32 sq, .int .u32 ak, .int .i64 flags, .int .i64 win, .slice B data.length d] 52)) := (Below.refl _ w).alloc (Nat.le_refl _) _
  have hX : Blk (w.alloc (.cells #[.int .i64 tos, .int .i64 id, .int .i64 ttl, .int .i64 proto, .int .u32 src, .int .i64 sp, .int .u32 dst, .int .i64 dp, .int .u32 sq, .int .u32 ak, .int .i64 flags, .int .i64 win, .slice B data.length d] 52)) w.heap.size 52 (pkc ⟨tos, id, ttl, ⟨proto, src, sp, dst, dp⟩, sq, ak, flags, win, data⟩ B d) := Blk.new w _ _
  go_enter Try.func56, Try.ntmps56
  go_upto_region 3 with (fail)
  generalize w.alloc (.cells #[.int .i64 tos, .int .i64 id, .int .i64 ttl, .int .i64 proto, .int .u32 src, .int .i64 sp, .int .u32 dst, .int .i64 dp, .int .u32 sq, .int .u32 ak, .int .i64 flags, .int .i64 win, .slice B data.length d] 52) = wa at *
  obtain ⟨c0, c1, c2, c3, c4, c5, c6, c7, c8, c9, c10, c11, c12⟩ := blk13 hX
  rcases hh with hgf | ⟨hgf, hh⟩
  · go_wp2_with fail
    (with_reducible refine (acheck_bad ⟨proto, src, sp, dst, dp⟩ wa hgf).mono ?_)
    rintro e w1 ⟨rfl, hb1⟩
    have hb1' := below_call hb0 hb1
    go_wp2_with fail
    go_ret
    exact ⟨rfl, hb1'⟩
  go_wp2_with fail
  (with_reducible refine (acheck_good ⟨proto, src, sp, dst, dp⟩ wa hgf).mono ?_)
  rintro e w1 ⟨rfl, hb1⟩
  have hb1' := below_call hb0 hb1
  have hX1 := hX.kept hb1
  clear hX hb0 hb1 c0 c1 c2 c3 c4 c5 c6 c7 c8 c9 c10 c11 c12
  obtain ⟨c0, c1, c2, c3, c4, c5, c6, c7, c8, c9, c10, c11, c12⟩ := blk13 hX1
  rcases hh with t1 | ⟨t1, t2⟩ | ⟨t1, t2, t3⟩ | ⟨t1, t2, t3, t4 | ⟨t4, t5⟩ | ⟨t4, t5, ⟨rfl, h1⟩ | ⟨rfl, h1⟩⟩⟩
  · go_wp2_with (go_at_call 64; (with_reducible refine (within_any _ _ _ _).mono ?_); rintro e w' ⟨rfl, rfl⟩)
    go_ret
    exact ⟨rfl, hb1'⟩
  · go_wp2_with (go_at_call 64; (with_reducible refine (within_any _ _ _ _).mono ?_); rintro e w' ⟨rfl, rfl⟩)
    go_ret
    exact ⟨rfl, hb1'⟩
  · go_wp2_with (go_at_call 64; (with_reducible refine (within_any _ _ _ _).mono ?_); rintro e w' ⟨rfl, rfl⟩)
    go_ret
    exact ⟨rfl, hb1'⟩
  · go_wp2_with (go_at_call 64; (with_reducible refine (within_any _ _ _ _).mono ?_); rintro e w' ⟨rfl, rfl⟩)
    go_ret
    exact ⟨rfl, hb1'⟩
  · go_wp2_with (go_at_call 64; (with_reducible refine (within_any _ _ _ _).mono ?_); rintro e w' ⟨rfl, rfl⟩)
    go_ret
    exact ⟨rfl, hb1'⟩
  · rcases h1 with h1 | ⟨rfl, h1⟩ | ⟨rfl, rfl, h1⟩ | ⟨rfl, rfl, rfl, h1⟩ | ⟨rfl, rfl, rfl, rfl, h1⟩
    rotate_right
    · have q1 : (1472 : Int) < (data.length : Int) := by omega
      have q2 : decide ((1472 : Int) < (data.length : Int)) = true := decide_eq_true q1
      go_wp2_with (go_at_call 64; (with_reducible refine (within_any _ _ _ _).mono ?_); rintro e w' ⟨rfl, rfl⟩)
      go_quiet ((go_at_call 54; exact Calls.quiet_of_same (headOf_udp _)))
      go_wp2_with fail
      go_ret
      exact ⟨rfl, ⟨hb1'.os, hb1'.tape, hb1'.output, hb1'.size, hb1'.block⟩⟩
    all_goals
      have q1 := beq_eq_false_iff_ne.2 h1
      have q2 := bne_iff_ne.2 h1
      clear h1
      go_wp2_with (go_at_call 64; (with_reducible refine (within_any _ _ _ _).mono ?_); rintro e w' ⟨rfl, rfl⟩)
      go_ret
      exact ⟨rfl, hb1'⟩
  · have q1 : (1460 : Int) < (data.length : Int) := by omega
    have q2 : decide ((1460 : Int) < (data.length : Int)) = true := decide_eq_true q1
    go_wp2_with (go_at_call 64; (with_reducible refine (within_any _ _ _ _).mono ?_); rintro e w' ⟨rfl, rfl⟩)
    go_quiet ((go_at_call 54; exact Calls.quiet_of_same (headOf_tcp _)))
    go_wp2_with fail
    go_ret
    exact ⟨rfl, ⟨hb1'.os, hb1'.tape, hb1'.output, hb1'.size, hb1'.block⟩⟩
end Go.Proofs.Ytbhdjalpkecbeaa
