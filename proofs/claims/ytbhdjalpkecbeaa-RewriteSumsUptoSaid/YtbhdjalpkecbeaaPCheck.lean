/- The walk of packet.Check. -/
import Derived.Test.YtbhdjalpkecbeaaPkt
import Derived.BigQuiet
import Derived.Deep.CutBlock
import Derived.Deep.DeepCutAuto
import Derived.Deep.QuietTactic
namespace Go.Proofs.Ytbhdjalpkecbeaa
set_option linter.unusedVariables false
set_option linter.unusedSimpArgs false
open Go.RowKit

def wb (n lo hi : Int) : Bool := decide (lo ≤ n) && decide (n ≤ hi)
theorem wb_iff (n lo hi : Int) : wb n lo hi = true ↔ lo ≤ n ∧ n ≤ hi := by simp [wb]
theorem wb_no (n lo hi : Int) : wb n lo hi = false ↔ ¬ (lo ≤ n ∧ n ≤ hi) := by rw [← wb_iff]; simp
theorem within_any (n lo hi : Int) (w : World) : Calls Try.prog 64 #[.int .i64 n, .int .i64 lo, .int .i64 hi] w fun e w' => e = .returned (.bool (wb n lo hi)) ∧ w = w' := by
  by_cases h : lo ≤ n
  · go_enter Try.func64, Try.ntmps64
    go_wp2
    go_ret
    exact ⟨by unfold wb; simp [h], rfl⟩
  · have h' : decide (lo ≤ n) = false := decide_eq_false h
    go_enter Try.func64, Try.ntmps64
    go_wp2
    go_ret
    exact ⟨by unfold wb; rw [h']; rfl, rfl⟩
theorem headOf_udp (w : World) : Calls Try.prog 54 #[.int .i64 17] w fun e w' => e = .returned (.int .i64 8) ∧ w' = w := by
  go_enter Try.func54, Try.ntmps54
  go_wp2
  go_ret
  exact ⟨rfl, rfl⟩
theorem headOf_tcp (w : World) : Calls Try.prog 54 #[.int .i64 6] w fun e w' => e = .returned (.int .i64 20) ∧ w' = w := by
  go_enter Try.func54, Try.ntmps54
  go_wp2
  go_ret
  exact ⟨rfl, rfl⟩

set_option maxHeartbeats 1600000 in
theorem pcheck_good (p : Pk) (B : Option Addr) (d : Nat) (w : World) (hg : GoodP p) : Calls Try.prog 56 #[pkv p B d] w fun e w' => e = .returned .nilIface ∧ Below w.heap.size w w' := by
  have hgf := hg.1
  have t1 := (wb_iff p.tos 0 255).2 hg.2.1
  have t2 := (wb_iff p.id 0 65535).2 hg.2.2.1
  have t3 := (wb_iff p.ttl 1 255).2 hg.2.2.2.1
  have t4 := (wb_iff p.flags 0 255).2 hg.2.2.2.2.1
  have t5 := (wb_iff p.win 0 65535).2 hg.2.2.2.2.2.1
  have t6 := hg.2.2.2.2.2.2.1
  have t7 := hg.2.2.2.2.2.2.2
  have t8 := hg.1.1
  obtain ⟨tos, id, ttl, ⟨proto, src, sp, dst, dp⟩, sq, ak, flags, win, data⟩ := p
  simp only at t1 t2 t3 t4 t5 t6 t7 t8 hgf
  clear hg
  have hb0 : Below w.heap.size w (w.alloc (.cells #[.int .i64 tos, .int .i64 id, .int .i64 ttl, .int .i64 proto, .int .u32 src, .int .i64 sp, .int .u32 dst, .int .i64 dp, .int .u32 sq, .int .u32 ak, .int .i64 flags, .int .i64 win, .slice B data.length d] 52)) := (Below.refl _ w).alloc (Nat.le_refl _) _
  have hX : Blk (w.alloc (.cells #[.int .i64 tos, .int .i64 id, .int .i64 ttl, .int .i64 proto, .int .u32 src, .int .i64 sp, .int .u32 dst, .int .i64 dp, .int .u32 sq, .int .u32 ak, .int .i64 flags, .int .i64 win, .slice B data.length d] 52)) w.heap.size 52 (pkc ⟨tos, id, ttl, ⟨proto, src, sp, dst, dp⟩, sq, ak, flags, win, data⟩ B d) := Blk.new w _ _
  go_enter Try.func56, Try.ntmps56
  go_upto_region 3 with (fail)
  generalize w.alloc (.cells #[.int .i64 tos, .int .i64 id, .int .i64 ttl, .int .i64 proto, .int .u32 src, .int .i64 sp, .int .u32 dst, .int .i64 dp, .int .u32 sq, .int .u32 ak, .int .i64 flags, .int .i64 win, .slice B data.length d] 52) = wa at *
  obtain ⟨c0, c1, c2, c3, c4, c5, c6, c7, c8, c9, c10, c11, c12⟩ := blk13 hX
  go_wp2_with fail
  (with_reducible refine (acheck_good ⟨proto, src, sp, dst, dp⟩ wa hgf).mono ?_)
  rintro e w1 ⟨rfl, hb1⟩
  have hb1' := below_call hb0 hb1
  have hX1 := hX.kept hb1
  clear hX hb0 hb1 c0 c1 c2 c3 c4 c5 c6 c7 c8 c9 c10 c11 c12
  obtain ⟨c0, c1, c2, c3, c4, c5, c6, c7, c8, c9, c10, c11, c12⟩ := blk13 hX1
  rcases t8 with rfl | rfl
  · simp only [if_neg (show ¬ (6 : Int) = 17 by decide)] at t7
    clear t6
    go_wp2_with (go_at_call 64; (with_reducible refine (within_any _ _ _ _).mono ?_); rintro e w' ⟨rfl, rfl⟩)
    go_quiet ((go_at_call 54; exact Calls.quiet_of_same (headOf_tcp _)))
    go_wp2_with fail
    go_ret
    exact ⟨rfl, ⟨hb1'.os, hb1'.tape, hb1'.output, hb1'.size, hb1'.block⟩⟩
  · simp only [if_true] at t7
    obtain ⟨rfl, rfl, rfl, rfl⟩ := t6 rfl
    go_wp2_with (go_at_call 64; (with_reducible refine (within_any _ _ _ _).mono ?_); rintro e w' ⟨rfl, rfl⟩)
    go_quiet ((go_at_call 54; exact Calls.quiet_of_same (headOf_udp _)))
    go_wp2_with fail
    go_ret
    exact ⟨rfl, ⟨hb1'.os, hb1'.tape, hb1'.output, hb1'.size, hb1'.block⟩⟩

/-- Where a packet that is not in form first shows it. -/
theorem bad_cases (p : Pk) (h : ¬ GoodP p) : ¬ GoodF p.fl ∨ (GoodF p.fl ∧ (
    wb p.tos 0 255 = false ∨ (wb p.tos 0 255 = true ∧ wb p.id 0 65535 = false) ∨ (wb p.tos 0 255 = true ∧ wb p.id 0 65535 = true ∧ wb p.ttl 1 255 = false) ∨
    (wb p.tos 0 255 = true ∧ wb p.id 0 65535 = true ∧ wb p.ttl 1 255 = true ∧ (wb p.flags 0 255 = false ∨ (wb p.flags 0 255 = true ∧ wb p.win 0 65535 = false) ∨
      (wb p.flags 0 255 = true ∧ wb p.win 0 65535 = true ∧ (
        (p.fl.proto = 17 ∧ (p.seq ≠ 0 ∨ (p.seq = 0 ∧ p.ack ≠ 0) ∨ (p.seq = 0 ∧ p.ack = 0 ∧ p.flags ≠ 0) ∨ (p.seq = 0 ∧ p.ack = 0 ∧ p.flags = 0 ∧ p.win ≠ 0) ∨ (p.seq = 0 ∧ p.ack = 0 ∧ p.flags = 0 ∧ p.win = 0 ∧ 1472 < p.data.length))) ∨
        (p.fl.proto = 6 ∧ 1460 < p.data.length))))))) := by
  by_cases h0 : GoodF p.fl
  · refine .inr ⟨h0, ?_⟩
    by_cases h1 : wb p.tos 0 255 = true
    · by_cases h2 : wb p.id 0 65535 = true
      · by_cases h3 : wb p.ttl 1 255 = true
        · by_cases h4 : wb p.flags 0 255 = true
          · by_cases h5 : wb p.win 0 65535 = true
            · refine .inr (.inr (.inr ⟨h1, h2, h3, .inr (.inr ⟨h4, h5, ?_⟩)⟩))
              have hn : ¬ ((p.fl.proto = 17 → p.seq = 0 ∧ p.ack = 0 ∧ p.flags = 0 ∧ p.win = 0) ∧ p.data.length ≤ (if p.fl.proto = 17 then 1472 else 1460)) := fun hh =>
                h ⟨h0, (wb_iff _ _ _).1 h1, (wb_iff _ _ _).1 h2, (wb_iff _ _ _).1 h3, (wb_iff _ _ _).1 h4, (wb_iff _ _ _).1 h5, hh⟩
              rcases h0.1 with e | e
              · rw [e] at hn ⊢
                simp only [if_neg (show ¬ (6 : Int) = 17 by decide)] at hn
                refine .inr ⟨rfl, ?_⟩
                omega
              · rw [e] at hn ⊢
                simp only [if_true, true_implies] at hn
                refine .inl ⟨rfl, ?_⟩
                omega
            · exact .inr (.inr (.inr ⟨h1, h2, h3, .inr (.inl ⟨h4, by simpa using h5⟩)⟩))
          · exact .inr (.inr (.inr ⟨h1, h2, h3, .inl (by simpa using h4)⟩))
        · exact .inr (.inr (.inl ⟨h1, h2, by simpa using h3⟩))
      · exact .inr (.inl ⟨h1, by simpa using h2⟩)
    · exact .inl (by simpa using h1)
  · exact .inl h0
end Go.Proofs.Ytbhdjalpkecbeaa
