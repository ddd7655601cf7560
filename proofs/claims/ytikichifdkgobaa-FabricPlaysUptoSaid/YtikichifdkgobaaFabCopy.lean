/- The walks of the fabric's Copy and of the document's Like. -/
import Derived.Test.YtikichifdkgobaaFabOps
namespace Go.Proofs.Ytikichifdkgobaa
set_option linter.unusedVariables false
set_option linter.unusedSimpArgs false
open Go.RowKit

set_option maxHeartbeats 800000 in
theorem copy_some (base gf : Nat) (last : Int) (fl : Value) (l : List (Lh × Value)) (xs : List (List UInt8)) (n : Int) (p : Nat) (h : Lh) (A : Option Addr) (k c : Nat) (bs_ : List UInt8) (w : World) (hF : Fb w base gf last fl l xs) (hbs : base ≤ w.heap.size) (h0 : 0 < l.length) (hl : l.length < 4096) (hla : 0 ≤ last ∧ last ≤ 1000000) (hp : pl n l.length = p) (hv : l[p]? = some (h, .slice A k c)) (hx : xs[p]? = some bs_) (hk : bs_.length = k) (hkl : k ≤ 4000000) :
    Calls Try.prog 14 #[.pointer (some ⟨gf, 0, none⟩), .int .i64 n] w fun e w' => e = .returned (.tuple #[.int .i64 (last + 1), .nilIface]) ∧ ∃ w0, w.heap.size ≤ w0.heap.size ∧ Below w.heap.size w w0 ∧ PutQ w0 base gf last fl l xs h bs_ k w' := by
  go_enter Try.func14, Try.ntmps14
  go_wp2_with fail
  (with_reducible refine (nth_some base gf last fl l xs n p h A k c bs_ w hF h0 (by omega) hp hv hx (by omega)).mono ?_)
  rintro e w1 ⟨A2, c2, rfl, hc2, hown2, hb1⟩
  have hb2 := below_al hb1 (.cells #[.int .i64 h.id, .int .i64 h.src, .int .i64 h.dst, .bool h.ctl, .slice A2 k c2] 37)
  have hF2 := hF.below hb2
  have hR2 : RB (w1.alloc (.cells #[.int .i64 h.id, .int .i64 h.src, .int .i64 h.dst, .bool h.ctl, .slice A2 k c2] 37)) A2 bs_ := RC.of_ownS (hown2.alloc _)
  have hX2 : Blk (w1.alloc (.cells #[.int .i64 h.id, .int .i64 h.src, .int .i64 h.dst, .bool h.ctl, .slice A2 k c2] 37)) w1.heap.size 37 [.int .i64 h.id, .int .i64 h.src, .int .i64 h.dst, .bool h.ctl, .slice A2 k c2] := Blk.new w1 _ _
  have hs2 := hb2.size
  have HK := Lib.hid hk
  clear hF hown2 hv hx hk
  go_wp2_with fail
  generalize (w1.alloc (.cells #[.int .i64 h.id, .int .i64 h.src, .int .i64 h.dst, .bool h.ctl, .slice A2 k c2] 37)) = wb at *
  (with_reducible refine (put_any base gf last fl l xs h bs_ A2 k c2 wb hF2 (by omega) hl hla HK.out hR2 hc2 hkl).mono ?_)
  rintro e w3 ⟨rfl, hp3⟩
  go_wp2_with fail
  go_ret2
  exact ⟨rfl, wb, hs2, hb2, hp3⟩

/-- Two letters that are alike. -/
def likeB (h h' : Lh) (x y : List UInt8) : Bool := h.id == h'.id && h.src == h'.src && h.dst == h'.dst && h.ctl == h'.ctl && decide (x = y)
set_option maxHeartbeats 1600000 in
theorem rlike_same (h : Lh) (A B : Option Addr) (c d : Nat) (x : List UInt8) (n : Nat) (w : World) (hn : x.length = n) (hA : RB w A x) (hB : RB w B x) :
    Calls Try.prog 17 #[ltv h (.slice A n c), ltv h (.slice B n d)] w fun e w' => e = .returned (.bool true) ∧ Below w.heap.size w w' := by
  obtain ⟨id, src, dst, ctl⟩ := h
  have hal : Below w.heap.size w ((w.alloc (.cells #[.int .i64 id, .int .i64 src, .int .i64 dst, .bool ctl, .slice A n c] 37)).alloc (.cells #[.int .i64 id, .int .i64 src, .int .i64 dst, .bool ctl, .slice B n d] 37)) := below_al ((Below.refl _ w).alloc (Nat.le_refl _) _) _
  have s1 := run_str (P := Try.prog) _ _ _ _ Try.underlying29 Try.underlying5 Try.underlying9 _ n c _ (hA.below hal) hn
  have s2 := run_str (P := Try.prog) _ _ _ _ Try.underlying29 Try.underlying5 Try.underlying9 _ n d _ (hB.below hal) hn
  have hcm : ((bs x).toList == (bs x).toList) = true := by simp
  generalize bs x = bx at *
  clear hn
  go_enter Try.func17, Try.ntmps17
  go_wp2_with fail
  go_ret
  exact ⟨by simp, hal⟩
end Go.Proofs.Ytikichifdkgobaa
