/- The walks of sumAt, open.side. -/
import Derived.Test.YtbhdjalpkecbeaaRwChange
namespace Go.Proofs.Ytbhdjalpkecbeaa
set_option linter.unusedVariables false
set_option linter.unusedSimpArgs false
open Go.RowKit

def ow (pr : Int) : Nat := if pr = 17 then 26 else 36
theorem sumAt_any (pr : Int) (w : World) : Calls Try.prog 48 #[.int .i64 pr] w fun e w' => e = .returned (.int .i64 (ow pr : Int)) ∧ w' = w := by
  by_cases h : pr = 17
  · subst h
    go_enter Try.func48, Try.ntmps48
    go_wp2_with fail
    go_ret
    exact ⟨rfl, rfl⟩
  · have hb : (pr == 17) = false := beq_eq_false_iff_ne.2 h
    have e : (ow pr : Int) = 36 := by unfold ow; rw [if_neg h]; rfl
    rw [e]
    clear h e
    go_enter Try.func48, Try.ntmps48
    go_wp2_with fail
    go_ret
    exact ⟨rfl, rfl⟩
theorem change_n (base g n c at_ x gs k : Nat) (pr at' x' : Int) (ss : List Nat) (l : List UInt8) (w : World) (hk : ss.length = k) (hO : w.ownsRow base 5 1 (.slice (some ⟨g, 0, none⟩) n c) n (l.map bv)) (hn : l.length = n) (hl : n ≤ 2000) (hat : at_ + 1 < n) (hx : x ≤ 65535)
    (hS : Blk w gs 3 (ss.map fun s : Nat => Value.int .i64 (s : Int))) (hgs : gs ≠ g) (hss : ∀ s ∈ ss, s + 1 < n) (hsl : k ≤ 100) (ea : at' = (at_ : Int)) (ex : x' = (x : Int)) :
    Calls Try.prog 49 #[opv g n c pr, .int .i64 at', .int .u16 x', .slice (some ⟨gs, 0, none⟩) k k] w fun e w' => (∃ v, e = .returned v) ∧ w'.ownsRow base 5 1 (.slice (some ⟨g, 0, none⟩) n c) n ((chg (pr = 17) l at_ x ss).map bv) ∧ w.grownBy w' (some g) := by
  subst hk
  exact change_any base g n c at_ x gs pr at' x' ss l w hO hn hl hat hx hS hgs hss hsl ea ex
def sideN (pr : Int) (l : List UInt8) (a at_ port portAt : Nat) : List UInt8 :=
  chg (pr = 17) (chg (pr = 17) (chg (pr = 17) l at_ (a / 65536) [10, ow pr]) (at_ + 2) (a % 65536) [10, ow pr]) portAt port [ow pr]
theorem chg_len (udp : Prop) [Decidable udp] (l : List UInt8) (at_ x : Nat) (ss : List Nat) : (chg udp l at_ x ss).length = l.length := by unfold chg; rw [chgf_len, sw_len]
theorem ow_i (pr : Int) : IntKind.i64.wrap (ow pr : Int) = (ow pr : Int) := IntWalk.i64_in _ (by unfold ow; split <;> omega)
theorem grown_al' {w : World} (o : Obj) (row : Option Nat) : w.grownBy (w.alloc o) row := ⟨rfl, rfl, rfl, by simp, fun k hk _ => Below.heap_alloc w o k hk⟩
set_option maxRecDepth 100000 in
set_option maxHeartbeats 3200000 in
theorem side_any (base g n c a at_ port portAt : Nat) (pr a' at' port' portAt' : Int) (l : List UInt8) (w : World) (hO : w.ownsRow base 5 1 (.slice (some ⟨g, 0, none⟩) n c) n (l.map bv)) (hn : l.length = n) (hl : n ≤ 2000) (h28 : 28 ≤ n) (hat : at_ + 3 < n) (hpt : portAt + 1 < n) (hown : ow pr + 1 < n) (ha : a ≤ 4294967295) (hp : port ≤ 65535)
    (ea : a' = (a : Int)) (eat : at' = (at_ : Int)) (ep : port' = (port : Int)) (ept : portAt' = (portAt : Int)) :
    Calls Try.prog 33 #[opv g n c pr, .int .u32 a', .int .i64 at', .int .i64 port', .int .i64 portAt'] w fun e w' => (∃ v, e = .returned v) ∧ w'.ownsRow base 5 1 (.slice (some ⟨g, 0, none⟩) n c) n ((sideN pr l a at_ port portAt).map bv) ∧ w.grownBy w' (some g) := by
  subst ea eat ep ept
  have HN := Lib.hid hn
  have hgl : g < w.heap.size := (own_lt hO (show (Value.slice (some ⟨g, 0, none⟩) n c).ownBlock = some g by simp [Value.ownBlock])).2
  have hB : Blk (w.alloc (.cells #[.slice (some ⟨g, 0, none⟩) n c, .int .i64 pr] 65)) w.heap.size 65 [.slice (some ⟨g, 0, none⟩) n c, .int .i64 pr] := Blk.new w _ _
  have hgr : w.grownBy (w.alloc (.cells #[.slice (some ⟨g, 0, none⟩) n c, .int .i64 pr] 65)) (some g) := grown_al' _ _
  have hO1 := hO.alloc (.cells #[.slice (some ⟨g, 0, none⟩) n c, .int .i64 pr] 65)
  obtain ⟨hi, hhi⟩ : ∃ h, h = a / 65536 := ⟨_, rfl⟩
  obtain ⟨lo, hlo⟩ : ∃ h, h = a % 65536 := ⟨_, rfl⟩
  have u1 : (a : Int) / 65536 = (hi : Int) := by rw [hhi]; omega
  have u2 : IntKind.u16.wrap (hi : Int) = (hi : Int) := IntWalk.u16_in _ (by omega)
  have u3 : IntKind.u16.wrap (a : Int) = (lo : Int) := by rw [hlo]; simp [IntKind.wrap, IntKind.bits, IntKind.signed]
  have u4 : IntKind.u16.wrap (port : Int) = (port : Int) := IntWalk.u16_in _ (by omega)
  have u5 : IntKind.i64.wrap ((at_ : Int) + 2) = (at_ : Int) + 2 := IntWalk.i64_in _ (by omega)
  have hh1 : hi ≤ 65535 := by omega
  have hh2 : lo ≤ 65535 := by omega
  have HHI := Lib.hid hhi
  have HLO := Lib.hid hlo
  obtain ⟨ov, hov⟩ : ∃ v, ow pr = v := ⟨_, rfl⟩
  have HOV := Lib.hid hov
  rw [hov] at hown
  clear hO hn hhi hlo hov
  go_enter Try.func33, Try.ntmps33
  go_upto_region 1 with (fail)
  generalize hwg : w.heap.size = gb at *
  generalize w.alloc (.cells #[.slice (some ⟨g, 0, none⟩) n c, .int .i64 pr] 65) = wa at *
  have hbl : gb < wa.heap.size := hB.lt
  have b0 := hB.cell 0
  have b1_ := hB.cell 1
  simp only [List.getElem?_cons_zero, List.getElem?_cons_succ] at b0 b1_
  go_wp2_with fail
  (with_reducible refine (sumAt_any pr wa).mono ?_)
  rintro e w1 ⟨rfl, rfl⟩
  rw [HOV.out]
  have hS1 : Blk (w1.alloc (.cells #[.int .i64 10, .int .i64 (ov : Int)] 3)) w1.heap.size 3 ([10, ov].map fun s : Nat => Value.int .i64 (s : Int)) := Blk.new w1 _ _
  have hO2 := hO1.alloc (.cells #[.int .i64 10, .int .i64 (ov : Int)] 3)
  have hB2 := hB.alloc (.cells #[.int .i64 10, .int .i64 (ov : Int)] 3)
  have hg2 := hgr.trans (grown_al' (w := w1) (.cells #[.int .i64 10, .int .i64 (ov : Int)] 3) (some g))
  clear hO1 hB hgr
  go_wp2_with fail
  (with_reducible refine (change_n base g n c at_ hi w1.heap.size 2 pr _ _ [10, ov] l _ rfl hO2 HN.out hl (by omega) hh1 hS1 (by omega) (by simp; omega) (by omega) rfl rfl).mono ?_)
  rintro e w2 ⟨⟨v2, rfl⟩, hO3, hg3⟩
  have hB3 := hB2.grown hg3 (by simp; omega)
  have hg4 := hg2.trans hg3
  have HL1 : Hid ((chg (pr = 17) l at_ hi [10, ov]).length = n) := by show _ = _; rw [chg_len, HN.out]
  have hs2 : gb < w2.heap.size := hB3.lt
  have hgl2 : g < w2.heap.size := by omega
  obtain ⟨l1, hl1⟩ : ∃ l1, chg (pr = 17) l at_ hi [10, ov] = l1 := ⟨_, rfl⟩
  have HC1 := Lib.hid hl1
  rw [hl1] at hO3 HL1
  clear hl1 hO2 hB2 hg2 hg3 hS1 b0 b1_
  have b0 := hB3.cell 0
  have b1_ := hB3.cell 1
  simp only [List.getElem?_cons_zero, List.getElem?_cons_succ] at b0 b1_
  have hS1 : Blk (w2.alloc (.cells #[.int .i64 10, .int .i64 (ov : Int)] 3)) w2.heap.size 3 ([10, ov].map fun s : Nat => Value.int .i64 (s : Int)) := Blk.new w2 _ _
  have hO4 := hO3.alloc (.cells #[.int .i64 10, .int .i64 (ov : Int)] 3)
  have hB4 := hB3.alloc (.cells #[.int .i64 10, .int .i64 (ov : Int)] 3)
  have hg5 := hg4.trans (grown_al' (w := w2) (.cells #[.int .i64 10, .int .i64 (ov : Int)] 3) (some g))
  clear hO3 hB3 hg4
  go_wp2_with fail
  (with_reducible refine (change_n base g n c (at_ + 2) lo w2.heap.size 2 pr ((at_ : Int) + 2) _ [10, ov] l1 _ rfl hO4 HL1.out hl (by omega) hh2 hS1 (by omega) (by simp; omega) (by omega) (by omega) rfl).mono ?_)
  rintro e w3 ⟨⟨v3, rfl⟩, hO5, hg6⟩
  have hB5 := hB4.grown hg6 (by simp; omega)
  have hg7 := hg5.trans hg6
  have HL2 : Hid ((chg (pr = 17) l1 (at_ + 2) lo [10, ov]).length = n) := by show _ = _; rw [chg_len, HL1.out]
  have hs3 : gb < w3.heap.size := hB5.lt
  have hgl3 : g < w3.heap.size := by omega
  obtain ⟨l2, hl2⟩ : ∃ l2, chg (pr = 17) l1 (at_ + 2) lo [10, ov] = l2 := ⟨_, rfl⟩
  have HC2 := Lib.hid hl2
  rw [hl2] at hO5 HL2
  clear hl2 hO4 hB4 hg5 hg6 hS1 b0 b1_
  have b0 := hB5.cell 0
  have b1_ := hB5.cell 1
  simp only [List.getElem?_cons_zero, List.getElem?_cons_succ] at b0 b1_
  have hS1 : Blk (w3.alloc (.cells #[.int .i64 (ov : Int)] 3)) w3.heap.size 3 ([ov].map fun s : Nat => Value.int .i64 (s : Int)) := Blk.new w3 _ _
  have hO6 := hO5.alloc (.cells #[.int .i64 (ov : Int)] 3)
  have hg8 := hg7.trans (grown_al' (w := w3) (.cells #[.int .i64 (ov : Int)] 3) (some g))
  clear hO5 hg7
  go_wp2_with fail
  (with_reducible refine (change_n base g n c portAt port w3.heap.size 1 pr _ _ [ov] l2 _ rfl hO6 HL2.out hl hpt hp hS1 (by omega) (by simp; omega) (by omega) rfl rfl).mono ?_)
  rintro e w4 ⟨⟨v4, rfl⟩, hO7, hg9⟩
  have hg10 := hg8.trans hg9
  have HF : Hid (w4.ownsRow base 5 1 (.slice (some ⟨g, 0, none⟩) n c) n ((sideN pr l a at_ port portAt).map bv)) := by
    show w4.ownsRow _ _ _ _ _ _
    unfold sideN
    rw [HOV.out, ← HHI.out, ← HLO.out, HC1.out, HC2.out]
    exact hO7
  clear hO7 hO6 hS1 b0 b1_
  go_wp2_with fail
  refine bodyPost_end (results_none rfl _ _ _) rfl ?_
  exact ⟨⟨_, rfl⟩, HF.out, hg10⟩
end Go.Proofs.Ytbhdjalpkecbeaa
