/- The walks of codec.wide and towpathref06.number. -/
import Derived.Test.YtgmimindhhpkgaaU8
import Derived.Test.YtgmimindhhpkgaaCodecPure
namespace Go.Proofs.Ytgmimindhhpkgaa
set_option linter.unusedVariables false
set_option linter.unusedSimpArgs false
open Go.RowKit

theorem shift_byte (n r : Nat) : (n : Int) / 2 ^ (8 * (r + 1) - 8) % 256 = (((UInt8.ofNat (n / 256 ^ r)).toNat : Nat) : Int) := by
  have e : (2 : Int) ^ (8 * (r + 1) - 8) = ((256 ^ r : Nat) : Int) := by
    rw [show 8 * (r + 1) - 8 = 8 * r from by omega, Int.pow_mul]
    simp
  rw [e, UInt8.toNat_ofNat']
  omega

set_option maxHeartbeats 800000 in
theorem wide_any (size n base : Nat) (v : Value) (l : List UInt8) (w : World) (hs : size ≤ 8) (hn : n < 18446744073709551616) (hl : l.length ≤ 4000000) (hb : base ≤ w.heap.size)
    (hown : w.ownsRow base 5 1 v l.length (l.map bv)) :
    Calls Try.prog 31 #[v, .int .u64 (n : Int), .int .i64 (size : Int)] w fun e w' => ∃ v', e = .returned v' ∧ w'.ownsRow base 5 1 v' (l ++ be size n).length ((l ++ be size n).map bv) ∧ Below base w w' ∧ w.grownBy w' v.ownBlock := by
  obtain ⟨i0, hi, hz0, hz1, hz2⟩ := info_parts info_u8
  go_enter Try.func31, Try.ntmps31
  go_wp2
  go_loopw [0, 7] (fun v' i wr => ∃ (r : Nat) (d : List UInt8), r ≤ size ∧ Hid (d ++ be r n = be size n) ∧ i = .int .i64 (8 * (r : Int) - 8) ∧ wr.ownsRow base 5 1 v' (l ++ d).length ((l ++ d).map bv) ∧ Below base w wr ∧ w.grownBy wr v.ownBlock ∧ (v'.ownBlock = v.ownBlock ∨ ∀ k, v'.ownBlock = some k → w.heap.size ≤ k)) (fun _ i _ => (intOf i + 8).toNat)
  case atStart => exact ⟨size, [], Nat.le_refl _, rfl, by go_num, by rw [List.append_nil]; exact hown, Below.refl _ _, World.grownBy.refl _ _, .inl rfl⟩
  case round =>
    obtain ⟨r, d, hr, hd, rfl, hown1, hbel, hgr, hat⟩ := hrel
    cases r with
    | zero =>
      have hd2 : d = be size n := by have := hd.out; simpa [be] using this
      subst hd2
      go_wp2
      go_ret
      exact ⟨_, rfl, hown1, hbel, hgr⟩
    | succ r =>
      obtain ⟨b, he, hb8⟩ : ∃ b : UInt8, (n : Int) / 2 ^ (8 * (r + 1) - 8) % 256 = (b.toNat : Int) ∧ Hid (b = UInt8.ofNat (n / 256 ^ r)) := ⟨_, shift_byte n r, rfl⟩
      have hdl : d.length + (r + 1) = size := by have := congrArg List.length hd.out; rw [List.length_append, be_len, be_len] at this; exact this
      have hbs := hbel.size
      have hll : (l ++ d).length ≤ 4000008 := by rw [List.length_append]; omega
      generalize hq : l ++ d = q at *
      have HQ := Lib.hid hq
      clear hq
      go_wp2_with (at_builtin; refine wl_app _ rfl (.tmp 15) (.tmp 20) 23 rfl base 5 i0 (.int .u8 0) 1 1 Try.underlying23 hi hz0 hz1 hz2 rfl (by omega) _ _ _ rfl (hown1.alloc _) (some ⟨wr.heap.size, 0, none⟩) 1 1 [.int .u8 (b.toNat : Int)] rfl (by simp) (rc_new wr _ _) (by simp [Value.oneCell']) (by unfold maxLen; omega) (by omega) (by simp; omega) ?_)
      intro v2 w2 hown2 hg2 hat2
      have hgo : ∀ k, u0.ownBlock = some k → base ≤ k := fun k hk => (hown1.lt k hk).1
      have hbel2 : Below base w w2 := (hbel.alloc (by omega) _).grown hg2 (by simp; omega) hgo
      have hgr2 : w.grownBy w2 v.ownBlock := by
        refine ⟨hbel2.os, hbel2.tape, hbel2.output, hbel2.size, fun k hk hne => ?_⟩
        have h1 := hgr.block k hk hne
        have h2 : (wr.alloc (.cells #[.int .u8 (b.toNat : Int)] 5)).heap[k]? = wr.heap[k]? := Below.heap_alloc _ _ _ (by omega)
        rw [← h1, ← h2]
        refine hg2.block k (by simp; omega) (fun e => ?_)
        rcases hat with h | h
        · exact hne (by rw [e]; exact h)
        · have := h k e.symm; omega
      have hat3 : v2.ownBlock = v.ownBlock ∨ ∀ k, v2.ownBlock = some k → w.heap.size ≤ k := by
        rcases hat2 with h | h
        · rw [h]; exact hat
        · exact .inr fun k hk => by rw [h] at hk; injection hk with hk; simp at hk; omega
      clear hown1 hbel hgr hat hg2 hat2 he
      go_wp2
      go_roundw
      case rel =>
        refine ⟨r, d ++ [b], by omega, ?_, by first | rfl | go_num, ?_, hbel2, hgr2, hat3⟩
        · show (d ++ [b]) ++ be r n = be size n
          rw [← hd.out, hb8.out, List.append_assoc]
          rfl
        · rw [← List.append_assoc, HQ.out, List.length_append, List.map_append]
          exact hown2
      case measure => simp [intOf] <;> omega

set_option maxHeartbeats 800000 in
theorem number_any (size n base : Nat) (v : Value) (l : List UInt8) (w : World) (hs : size ≤ 8) (hn : n < 18446744073709551616) (hl : l.length ≤ 4000000) (hb : base ≤ w.heap.size)
    (hown : w.ownsRow base 5 1 v l.length (l.map bv)) :
    Calls Try.prog 34 #[v, .int .u64 (n : Int), .int .i64 (size : Int)] w fun e w' => ∃ v', e = .returned v' ∧ w'.ownsRow base 5 1 v' (l ++ be size n).length ((l ++ be size n).map bv) ∧ Below base w w' ∧ w.grownBy w' v.ownBlock := by
  obtain ⟨i0, hi, hz0, hz1, hz2⟩ := info_parts info_u8
  go_enter Try.func34, Try.ntmps34
  go_wp2
  go_loopw [0, 7] (fun v' i wr => ∃ (r : Nat) (d : List UInt8), r ≤ size ∧ Hid (d ++ be r n = be size n) ∧ i = .int .i64 ((r : Int) - 1) ∧ wr.ownsRow base 5 1 v' (l ++ d).length ((l ++ d).map bv) ∧ Below base w wr ∧ w.grownBy wr v.ownBlock ∧ (v'.ownBlock = v.ownBlock ∨ ∀ k, v'.ownBlock = some k → w.heap.size ≤ k)) (fun _ i _ => (intOf i + 1).toNat)
  case atStart => exact ⟨size, [], Nat.le_refl _, rfl, by go_num, by rw [List.append_nil]; exact hown, Below.refl _ _, World.grownBy.refl _ _, .inl rfl⟩
  case round =>
    obtain ⟨r, d, hr, hd, rfl, hown1, hbel, hgr, hat⟩ := hrel
    cases r with
    | zero =>
      have hd2 : d = be size n := by have := hd.out; simpa [be] using this
      subst hd2
      go_wp2
      go_ret
      exact ⟨_, rfl, hown1, hbel, hgr⟩
    | succ r =>
      obtain ⟨b, he, hb8⟩ : ∃ b : UInt8, (n : Int) / 2 ^ (8 * r) % 256 = (b.toNat : Int) ∧ Hid (b = UInt8.ofNat (n / 256 ^ r)) := ⟨_, by have := shift_byte n r; rw [show 8 * (r + 1) - 8 = 8 * r from by omega] at this; exact this, rfl⟩
      have hdl : d.length + (r + 1) = size := by have := congrArg List.length hd.out; rw [List.length_append, be_len, be_len] at this; exact this
      have hbs := hbel.size
      have hll : (l ++ d).length ≤ 4000008 := by rw [List.length_append]; omega
      generalize hq : l ++ d = q at *
      have HQ := Lib.hid hq
      clear hq
      go_wp2_with (at_builtin; refine wl_app _ rfl (.tmp 14) (.tmp 21) 23 rfl base 5 i0 (.int .u8 0) 1 1 Try.underlying23 hi hz0 hz1 hz2 rfl (by omega) _ _ _ rfl (hown1.alloc _) (some ⟨wr.heap.size, 0, none⟩) 1 1 [.int .u8 (b.toNat : Int)] rfl (by simp) (rc_new wr _ _) (by simp [Value.oneCell']) (by unfold maxLen; omega) (by omega) (by simp; omega) ?_)
      intro v2 w2 hown2 hg2 hat2
      have hgo : ∀ k, u0.ownBlock = some k → base ≤ k := fun k hk => (hown1.lt k hk).1
      have hbel2 : Below base w w2 := (hbel.alloc (by omega) _).grown hg2 (by simp; omega) hgo
      have hgr2 : w.grownBy w2 v.ownBlock := by
        refine ⟨hbel2.os, hbel2.tape, hbel2.output, hbel2.size, fun k hk hne => ?_⟩
        have h1 := hgr.block k hk hne
        have h2 : (wr.alloc (.cells #[.int .u8 (b.toNat : Int)] 5)).heap[k]? = wr.heap[k]? := Below.heap_alloc _ _ _ (by omega)
        rw [← h1, ← h2]
        refine hg2.block k (by simp; omega) (fun e => ?_)
        rcases hat with h | h
        · exact hne (by rw [e]; exact h)
        · have := h k e.symm; omega
      have hat3 : v2.ownBlock = v.ownBlock ∨ ∀ k, v2.ownBlock = some k → w.heap.size ≤ k := by
        rcases hat2 with h | h
        · rw [h]; exact hat
        · exact .inr fun k hk => by rw [h] at hk; injection hk with hk; simp at hk; omega
      clear hown1 hbel hgr hat hg2 hat2 he
      go_wp2
      go_roundw
      case rel =>
        refine ⟨r, d ++ [b], by omega, ?_, by first | rfl | go_num, ?_, hbel2, hgr2, hat3⟩
        · show (d ++ [b]) ++ be r n = be size n
          rw [← hd.out, hb8.out, List.append_assoc]
          rfl
        · rw [← List.append_assoc, HQ.out, List.length_append, List.map_append]
          exact hown2
      case measure => simp [intOf] <;> omega
end Go.Proofs.Ytgmimindhhpkgaa
