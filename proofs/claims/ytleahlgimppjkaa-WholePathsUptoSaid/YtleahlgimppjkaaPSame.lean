/- Packets compared: the walks of packet.Same, of the document's Same. -/
import Derived.Test.YtleahlgimppjkaaPParse
import Derived.Test.YtleahlgimppjkaaFlowEq
namespace Go.Proofs.Ytleahlgimppjkaa
set_option linter.unusedVariables false
set_option linter.unusedSimpArgs false
open Go.RowKit

def sameP (p q : Pk) : Bool := (p.tos == q.tos) && ((p.id == q.id) && ((p.ttl == q.ttl) && (flB p.fl q.fl && ((p.seq == q.seq) && ((p.ack == q.ack) && ((p.flags == q.flags) && ((p.win == q.win) && decide (p.data = q.data))))))))
theorem sameP_iff (p q : Pk) : sameP p q = true ↔ p = q := by
  obtain ⟨a0, a1, a2, a3, a4, a5, a6, a7, a8⟩ := p
  obtain ⟨e0, e1, e2, e3, e4, e5, e6, e7, e8⟩ := q
  simp [sameP, flB_iff]
theorem sameP_self (p : Pk) : sameP p p = true := (sameP_iff p p).2 rfl

set_option maxRecDepth 100000 in
set_option maxHeartbeats 6400000 in
theorem psame_any (p q : Pk) (B C : Option Addr) (d e : Nat) (w : World) (hp : PkD w B d p) (hq : PkD w C e q) :
    Calls Try.prog 28 #[pkv p B d, pkv q C e] w fun x w' => x = .returned (.bool (sameP p q)) ∧ Below w.heap.size w w' := by
  have hb0 : Below w.heap.size w ((w.alloc (.cells #[.int .i64 p.tos, .int .i64 p.id, .int .i64 p.ttl, .int .i64 p.fl.proto, .int .u32 p.fl.src, .int .i64 p.fl.sp, .int .u32 p.fl.dst, .int .i64 p.fl.dp, .int .u32 p.seq, .int .u32 p.ack, .int .i64 p.flags, .int .i64 p.win, .slice B p.data.length d] 28)).alloc (.cells #[.int .i64 q.tos, .int .i64 q.id, .int .i64 q.ttl, .int .i64 q.fl.proto, .int .u32 q.fl.src, .int .i64 q.fl.sp, .int .u32 q.fl.dst, .int .i64 q.fl.dp, .int .u32 q.seq, .int .u32 q.ack, .int .i64 q.flags, .int .i64 q.win, .slice C q.data.length e] 28)) := ((Below.refl _ w).alloc (Nat.le_refl _) _).alloc (by simp) _
  have hX : Blk ((w.alloc (.cells #[.int .i64 p.tos, .int .i64 p.id, .int .i64 p.ttl, .int .i64 p.fl.proto, .int .u32 p.fl.src, .int .i64 p.fl.sp, .int .u32 p.fl.dst, .int .i64 p.fl.dp, .int .u32 p.seq, .int .u32 p.ack, .int .i64 p.flags, .int .i64 p.win, .slice B p.data.length d] 28)).alloc (.cells #[.int .i64 q.tos, .int .i64 q.id, .int .i64 q.ttl, .int .i64 q.fl.proto, .int .u32 q.fl.src, .int .i64 q.fl.sp, .int .u32 q.fl.dst, .int .i64 q.fl.dp, .int .u32 q.seq, .int .u32 q.ack, .int .i64 q.flags, .int .i64 q.win, .slice C q.data.length e] 28)) w.heap.size 28 (pkc p B d) := (Blk.new w _ _).alloc _
  have hY : Blk ((w.alloc (.cells #[.int .i64 p.tos, .int .i64 p.id, .int .i64 p.ttl, .int .i64 p.fl.proto, .int .u32 p.fl.src, .int .i64 p.fl.sp, .int .u32 p.fl.dst, .int .i64 p.fl.dp, .int .u32 p.seq, .int .u32 p.ack, .int .i64 p.flags, .int .i64 p.win, .slice B p.data.length d] 28)).alloc (.cells #[.int .i64 q.tos, .int .i64 q.id, .int .i64 q.ttl, .int .i64 q.fl.proto, .int .u32 q.fl.src, .int .i64 q.fl.sp, .int .u32 q.fl.dst, .int .i64 q.fl.dp, .int .u32 q.seq, .int .u32 q.ack, .int .i64 q.flags, .int .i64 q.win, .slice C q.data.length e] 28)) (w.heap.size + 1) 28 (pkc q C e) := by
    simpa using Blk.new (w.alloc (.cells #[.int .i64 p.tos, .int .i64 p.id, .int .i64 p.ttl, .int .i64 p.fl.proto, .int .u32 p.fl.src, .int .i64 p.fl.sp, .int .u32 p.fl.dst, .int .i64 p.fl.dp, .int .u32 p.seq, .int .u32 p.ack, .int .i64 p.flags, .int .i64 p.win, .slice B p.data.length d] 28)) 28 (pkc q C e)
  go_enter Try.func28, Try.ntmps28
  go_upto_region 1 with (fail)
  generalize ((w.alloc (.cells #[.int .i64 p.tos, .int .i64 p.id, .int .i64 p.ttl, .int .i64 p.fl.proto, .int .u32 p.fl.src, .int .i64 p.fl.sp, .int .u32 p.fl.dst, .int .i64 p.fl.dp, .int .u32 p.seq, .int .u32 p.ack, .int .i64 p.flags, .int .i64 p.win, .slice B p.data.length d] 28)).alloc (.cells #[.int .i64 q.tos, .int .i64 q.id, .int .i64 q.ttl, .int .i64 q.fl.proto, .int .u32 q.fl.src, .int .i64 q.fl.sp, .int .u32 q.fl.dst, .int .i64 q.fl.dp, .int .u32 q.seq, .int .u32 q.ack, .int .i64 q.flags, .int .i64 q.win, .slice C q.data.length e] 28)) = wa at *
  have hpd := hp.2.below hb0
  have hqd := hq.2.below hb0
  obtain ⟨c0, c1, c2, c3, c4, c5, c6, c7, c8, c9, c10, c11, c12⟩ := blk13 hX
  obtain ⟨e0, e1, e2, e3, e4, e5, e6, e7, e8, e9, e10, e11, e12⟩ := blk13 hY
  have hfe := fun W => fl_eq10 W p.fl q.fl
  clear hX hY hp hq
  cases h0 : (p.tos == q.tos)
  · have HF : Hid (sameP p q = false) := by show sameP p q = false; unfold sameP; simp only [h0, Bool.true_and, Bool.false_and]
    go_wp2_with fail
    go_ret
    exact ⟨by rw [HF.out]; try rfl, hb0⟩
  cases h1 : (p.id == q.id)
  · have HF : Hid (sameP p q = false) := by show sameP p q = false; unfold sameP; simp only [h0, h1, Bool.true_and, Bool.false_and]
    go_wp2_with fail
    go_ret
    exact ⟨by rw [HF.out]; try rfl, hb0⟩
  cases h2 : (p.ttl == q.ttl)
  · have HF : Hid (sameP p q = false) := by show sameP p q = false; unfold sameP; simp only [h0, h1, h2, Bool.true_and, Bool.false_and]
    go_wp2_with fail
    go_ret
    exact ⟨by rw [HF.out]; try rfl, hb0⟩
  cases h3 : (flB p.fl q.fl)
  · have HF : Hid (sameP p q = false) := by show sameP p q = false; unfold sameP; simp only [h0, h1, h2, h3, Bool.true_and, Bool.false_and]
    go_wp2_with fail
    go_ret
    exact ⟨by rw [HF.out]; try rfl, hb0⟩
  cases h4 : (p.seq == q.seq)
  · have HF : Hid (sameP p q = false) := by show sameP p q = false; unfold sameP; simp only [h0, h1, h2, h3, h4, Bool.true_and, Bool.false_and]
    go_wp2_with fail
    go_ret
    exact ⟨by rw [HF.out]; try rfl, hb0⟩
  cases h5 : (p.ack == q.ack)
  · have HF : Hid (sameP p q = false) := by show sameP p q = false; unfold sameP; simp only [h0, h1, h2, h3, h4, h5, Bool.true_and, Bool.false_and]
    go_wp2_with fail
    go_ret
    exact ⟨by rw [HF.out]; try rfl, hb0⟩
  cases h6 : (p.flags == q.flags)
  · have HF : Hid (sameP p q = false) := by show sameP p q = false; unfold sameP; simp only [h0, h1, h2, h3, h4, h5, h6, Bool.true_and, Bool.false_and]
    go_wp2_with fail
    go_ret
    exact ⟨by rw [HF.out]; try rfl, hb0⟩
  cases h7 : (p.win == q.win)
  · have HF : Hid (sameP p q = false) := by show sameP p q = false; unfold sameP; simp only [h0, h1, h2, h3, h4, h5, h6, h7, Bool.true_and, Bool.false_and]
    go_wp2_with fail
    go_ret
    exact ⟨by rw [HF.out]; try rfl, hb0⟩
  have HF : Hid (sameP p q = decide (p.data = q.data)) := by show sameP p q = _; unfold sameP; simp only [h0, h1, h2, h3, h4, h5, h6, h7, Bool.true_and]
  go_wp2_with fail
  (with_reducible refine (equal_any p.data q.data B C d e wa hpd hqd).mono ?_)
  rintro x w4 ⟨rfl, rfl⟩
  go_wp2_with fail
  go_ret
  exact ⟨by rw [HF.out]; try rfl, hb0⟩
end Go.Proofs.Ytleahlgimppjkaa
