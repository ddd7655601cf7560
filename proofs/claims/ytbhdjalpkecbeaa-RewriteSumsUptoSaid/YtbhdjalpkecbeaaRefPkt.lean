/- The walks of the document's two, four, Good, with, front. -/
import Derived.Test.YtbhdjalpkecbeaaPParse
import Derived.Test.YtbhdjalpkecbeaaRefSum
import Derived.Test.YtbhdjalpkecbeaaWriter
namespace Go.Proofs.Ytbhdjalpkecbeaa
set_option linter.unusedVariables false
set_option linter.unusedSimpArgs false
open Go.RowKit

theorem rc_two (w : World) (a b : Value) (t : TypeId) : RC (w.alloc (.cells #[a, b] t)) (some ⟨w.heap.size, 0, none⟩) [a, b] := rc_new w _ _
set_option maxHeartbeats 800000 in
theorem rtwo_any (base : Nat) (l : List UInt8) (v : Value) (n : Nat) (n' : Int) (w : World) (hO : w.ownsRow base 5 1 v l.length (l.map bv)) (hbs : base ≤ w.heap.size) (hl : l.length ≤ 1000000) (hn : n ≤ 65535) (en : n' = (n : Int)) :
    Calls Try.prog 39 #[v, .int .i64 n'] w fun e w' => ∃ v', e = .returned v' ∧ w'.ownsRow base 5 1 v' (l ++ be 2 n).length ((l ++ be 2 n).map bv) ∧ Below base w w' := by
  subst en
  obtain ⟨i0, hi, hz0, hz1, hz2⟩ := info_parts info_u8
  obtain ⟨a, ha⟩ : ∃ a, a = n / 256 := ⟨_, rfl⟩
  obtain ⟨b, hb⟩ : ∃ b, b = n % 256 := ⟨_, rfl⟩
  have e1 : (n : Int).tdiv 256 = (a : Int) := by rw [ha]; rfl
  have e2 : (n : Int).tmod 256 = (b : Int) := by rw [hb]; rfl
  have f1 : IntKind.i64.wrap (a : Int) = (a : Int) := IntWalk.i64_in _ (by omega)
  have f2 : IntKind.i64.wrap (b : Int) = (b : Int) := IntWalk.i64_in _ (by omega)
  obtain ⟨x, he, HX⟩ : ∃ x : UInt8, (a : Int) % 256 = (x.toNat : Int) ∧ Hid (x = UInt8.ofNat (n / 256)) := ⟨UInt8.ofNat (n / 256), by rw [UInt8.toNat_ofNat']; omega, rfl⟩
  obtain ⟨y, hf, HY⟩ : ∃ y : UInt8, (b : Int) % 256 = (y.toNat : Int) ∧ Hid (y = UInt8.ofNat n) := ⟨UInt8.ofNat n, by rw [UInt8.toNat_ofNat']; omega, rfl⟩
  have hlt := hO.1
  have HO := Lib.hid hO
  clear hO ha hb
  go_enter Try.func39, Try.ntmps39
  go_wp2_with (at_builtin; refine wl_app _ rfl (.tmp 5) (.tmp 12) 22 rfl base 5 i0 (.int .u8 0) 1 1 Try.underlying22 hi hz0 hz1 hz2 rfl (by omega) v l.length (l.map bv) rfl (HO.out.alloc _) (some ⟨w.heap.size, 0, none⟩) 2 2 [.int .u8 (x.toNat : Int), .int .u8 (y.toNat : Int)] rfl rfl (rc_two w _ _ _) (by simp [Value.oneCell']) (by unfold maxLen; omega) (by omega) (by simp; omega) ?_)
  intro v1 w1 hO1 hg1 _
  have hb1 : Below base w w1 := ((Below.refl _ w).alloc hbs _).grown hg1 (by simp; omega) (fun g hg => (HO.out.lt g hg).1)
  have hO2 : w1.ownsRow base 5 1 v1 (l ++ be 2 n).length ((l ++ be 2 n).map bv) := by
    rw [be2, ← HX.out, ← HY.out, List.length_append, List.map_append]
    exact hO1
  have HO2 := Lib.hid hO2
  clear hO1 hO2 hg1
  go_wp2_with fail
  go_ret
  exact ⟨_, rfl, HO2.out, hb1⟩
set_option maxHeartbeats 800000 in
theorem rfour_any (base : Nat) (l : List UInt8) (v : Value) (n : Nat) (n' : Int) (w : World) (hO : w.ownsRow base 5 1 v l.length (l.map bv)) (hbs : base ≤ w.heap.size) (hl : l.length ≤ 900000) (hn : n ≤ 4294967295) (en : n' = (n : Int)) :
    Calls Try.prog 38 #[v, .int .u32 n'] w fun e w' => ∃ v', e = .returned v' ∧ w'.ownsRow base 5 1 v' (l ++ be 4 n).length ((l ++ be 4 n).map bv) ∧ Below base w w' := by
  subst en
  have HB := Lib.hid (be4_two n (by omega))
  obtain ⟨a, ha⟩ : ∃ a, a = n / 65536 := ⟨_, rfl⟩
  obtain ⟨b, hb⟩ : ∃ b, b = n % 65536 := ⟨_, rfl⟩
  have e1 : (n : Int).tdiv 65536 = (a : Int) := by rw [ha]; rfl
  have e2 : (n : Int).tmod 65536 = (b : Int) := by rw [hb]; rfl
  have f1 : IntKind.u32.wrap (a : Int) = (a : Int) := IntWalk.u32_in _ (by omega)
  have f2 : IntKind.u32.wrap (b : Int) = (b : Int) := IntWalk.u32_in _ (by omega)
  have g1 : IntKind.i64.wrap (a : Int) = (a : Int) := IntWalk.i64_in _ (by omega)
  have g2 : IntKind.i64.wrap (b : Int) = (b : Int) := IntWalk.i64_in _ (by omega)
  have ha2 : a ≤ 65535 := by omega
  have hb2 : b ≤ 65535 := by omega
  rw [← ha, ← hb] at HB
  have HO := Lib.hid hO
  clear hO ha hb
  go_enter Try.func38, Try.ntmps38
  go_wp2_with fail
  (with_reducible refine (rtwo_any base l v a _ w HO.out hbs (by omega) ha2 rfl).mono ?_)
  rintro e w1 ⟨v1, rfl, hO1, hb1⟩
  have hs1 := hb1.size
  have HO1 := Lib.hid hO1
  clear hO1
  go_wp2_with fail
  (with_reducible refine (rtwo_any base (l ++ be 2 a) v1 b _ w1 HO1.out (by omega) (by rw [List.length_append, be_len]; omega) hb2 rfl).mono ?_)
  rintro e w2 ⟨v2, rfl, hO2, hb12⟩
  have HO2 : Hid (w2.ownsRow base 5 1 v2 (l ++ be 4 n).length ((l ++ be 4 n).map bv)) := by
    show w2.ownsRow _ _ _ _ _ _
    rw [HB.out, ← List.append_assoc]
    exact hO2
  clear hO2
  go_wp2_with fail
  go_ret
  exact ⟨_, rfl, HO2.out, hb1.trans hb12⟩
/-- Is a packet in form, as a truth value? -/
def goodPB (p : Pk) : Bool := (decide (0 ≤ p.tos)) && ((decide (p.tos ≤ 255)) && ((decide (0 ≤ p.id)) && ((decide (p.id ≤ 65535)) && ((decide (1 ≤ p.ttl)) && ((decide (p.ttl ≤ 255)) && ((decide (0 ≤ p.flags)) && ((decide (p.flags ≤ 255)) && ((decide (0 ≤ p.win)) && ((decide (p.win ≤ 65535)) && (cond (p.fl.proto == 17) ((p.seq == 0) && ((p.ack == 0) && ((p.flags == 0) && ((p.win == 0) && (decide ((p.data.length : Int) ≤ 1472)))))) (decide ((p.data.length : Int) ≤ 1460))))))))))))
theorem goodPB_iff (p : Pk) (hf : GoodF p.fl) : goodPB p = true ↔ GoodP p := by
  obtain ⟨tos, id, ttl, fl, sq, ak, flags, win, data⟩ := p
  simp only at hf
  unfold goodPB GoodP
  simp only [hf, true_and]
  by_cases h : fl.proto = 17
  · simp only [h, if_true, beq_self_eq_true, Bool.and_eq_true, decide_eq_true_eq, beq_iff_eq, cond_true, eq_self, true_implies, forall_const]
    omega
  · have hb : (fl.proto == 17) = false := beq_eq_false_iff_ne.2 h
    simp only [h, if_false, hb, Bool.and_eq_true, decide_eq_true_eq, beq_iff_eq, cond_false, false_implies, true_and]
    omega
set_option maxRecDepth 100000 in
set_option maxHeartbeats 12800000 in
theorem rgood_any (p : Pk) (B : Option Addr) (d : Nat) (w : World) :
    Calls Try.prog 36 #[pkv p B d] w fun e w' => ∃ g, e = .returned (.bool g) ∧ Hid (g = true ↔ GoodP p) ∧ Below w.heap.size w w' := by
  have hb0 : Below w.heap.size w (w.alloc (.cells #[.int .i64 p.tos, .int .i64 p.id, .int .i64 p.ttl, .int .i64 p.fl.proto, .int .u32 p.fl.src, .int .i64 p.fl.sp, .int .u32 p.fl.dst, .int .i64 p.fl.dp, .int .u32 p.seq, .int .u32 p.ack, .int .i64 p.flags, .int .i64 p.win, .slice B p.data.length d] 52)) := (Below.refl _ w).alloc (Nat.le_refl _) _
  have hX : Blk (w.alloc (.cells #[.int .i64 p.tos, .int .i64 p.id, .int .i64 p.ttl, .int .i64 p.fl.proto, .int .u32 p.fl.src, .int .i64 p.fl.sp, .int .u32 p.fl.dst, .int .i64 p.fl.dp, .int .u32 p.seq, .int .u32 p.ack, .int .i64 p.flags, .int .i64 p.win, .slice B p.data.length d] 52)) w.heap.size 52 (pkc p B d) := Blk.new w _ _
  go_enter Try.func36, Try.ntmps36
  go_upto_region 1 with (fail)
  generalize (w.alloc (.cells #[.int .i64 p.tos, .int .i64 p.id, .int .i64 p.ttl, .int .i64 p.fl.proto, .int .u32 p.fl.src, .int .i64 p.fl.sp, .int .u32 p.fl.dst, .int .i64 p.fl.dp, .int .u32 p.seq, .int .u32 p.ack, .int .i64 p.flags, .int .i64 p.win, .slice B p.data.length d] 52)) = wa at *
  obtain ⟨c0, c1, c2, c3, c4, c5, c6, c7, c8, c9, c10, c11, c12⟩ := blk13 hX
  by_cases hf : GoodF p.fl
  rotate_left
  · have HG : Hid (false = true ↔ GoodP p) := ⟨fun h => (by cases h), fun h => absurd h.1 hf⟩
    go_wp2_with fail
    (with_reducible refine (fgood_bad p.fl wa hf).mono ?_)
    rintro e w1 ⟨rfl, hb1⟩
    have hbb := below_call hb0 hb1
    have hX1 := hX.kept hb1
    clear hX hb1 hb0 c0 c1 c2 c3 c4 c5 c6 c7 c8 c9 c10 c11 c12
    obtain ⟨c0, c1, c2, c3, c4, c5, c6, c7, c8, c9, c10, c11, c12⟩ := blk13 hX1
    cases h17 : (p.fl.proto == 17)
    all_goals
      go_wp2_with fail
      go_ret
      exact ⟨_, rfl, HG, hbb⟩
  have HGI := Lib.hid (goodPB_iff p hf)
  go_wp2_with fail
  (with_reducible refine (fgood_good p.fl wa hf).mono ?_)
  rintro e w1 ⟨rfl, hb1⟩
  have hbb := below_call hb0 hb1
  have hX1 := hX.kept hb1
  clear hX hb1 hb0 c0 c1 c2 c3 c4 c5 c6 c7 c8 c9 c10 c11 c12 hf
  obtain ⟨c0, c1, c2, c3, c4, c5, c6, c7, c8, c9, c10, c11, c12⟩ := blk13 hX1
  cases h17 : (p.fl.proto == 17)
  focus
    cases h0 : (decide (0 ≤ p.tos))
    · have HG : Hid (false = true ↔ GoodP p) := by show _ ↔ _; rw [← HGI.out]; unfold goodPB; simp only [h17, h0, Bool.true_and, Bool.false_and, Bool.and_false, Bool.and_true, cond_true, cond_false]
      go_wp2_with fail
      go_ret
      exact ⟨_, rfl, HG, hbb⟩
    cases h1 : (decide (p.tos ≤ 255))
    · have HG : Hid (false = true ↔ GoodP p) := by show _ ↔ _; rw [← HGI.out]; unfold goodPB; simp only [h17, h0, h1, Bool.true_and, Bool.false_and, Bool.and_false, Bool.and_true, cond_true, cond_false]
      go_wp2_with fail
      go_ret
      exact ⟨_, rfl, HG, hbb⟩
    cases h2 : (decide (0 ≤ p.id))
    · have HG : Hid (false = true ↔ GoodP p) := by show _ ↔ _; rw [← HGI.out]; unfold goodPB; simp only [h17, h0, h1, h2, Bool.true_and, Bool.false_and, Bool.and_false, Bool.and_true, cond_true, cond_false]
      go_wp2_with fail
      go_ret
      exact ⟨_, rfl, HG, hbb⟩
    cases h3 : (decide (p.id ≤ 65535))
    · have HG : Hid (false = true ↔ GoodP p) := by show _ ↔ _; rw [← HGI.out]; unfold goodPB; simp only [h17, h0, h1, h2, h3, Bool.true_and, Bool.false_and, Bool.and_false, Bool.and_true, cond_true, cond_false]
      go_wp2_with fail
      go_ret
      exact ⟨_, rfl, HG, hbb⟩
    cases h4 : (decide (1 ≤ p.ttl))
    · have HG : Hid (false = true ↔ GoodP p) := by show _ ↔ _; rw [← HGI.out]; unfold goodPB; simp only [h17, h0, h1, h2, h3, h4, Bool.true_and, Bool.false_and, Bool.and_false, Bool.and_true, cond_true, cond_false]
      go_wp2_with fail
      go_ret
      exact ⟨_, rfl, HG, hbb⟩
    cases h5 : (decide (p.ttl ≤ 255))
    · have HG : Hid (false = true ↔ GoodP p) := by show _ ↔ _; rw [← HGI.out]; unfold goodPB; simp only [h17, h0, h1, h2, h3, h4, h5, Bool.true_and, Bool.false_and, Bool.and_false, Bool.and_true, cond_true, cond_false]
      go_wp2_with fail
      go_ret
      exact ⟨_, rfl, HG, hbb⟩
    cases h6 : (decide (0 ≤ p.flags))
    · have HG : Hid (false = true ↔ GoodP p) := by show _ ↔ _; rw [← HGI.out]; unfold goodPB; simp only [h17, h0, h1, h2, h3, h4, h5, h6, Bool.true_and, Bool.false_and, Bool.and_false, Bool.and_true, cond_true, cond_false]
      go_wp2_with fail
      go_ret
      exact ⟨_, rfl, HG, hbb⟩
    cases h7 : (decide (p.flags ≤ 255))
    · have HG : Hid (false = true ↔ GoodP p) := by show _ ↔ _; rw [← HGI.out]; unfold goodPB; simp only [h17, h0, h1, h2, h3, h4, h5, h6, h7, Bool.true_and, Bool.false_and, Bool.and_false, Bool.and_true, cond_true, cond_false]
      go_wp2_with fail
      go_ret
      exact ⟨_, rfl, HG, hbb⟩
    cases h8 : (decide (0 ≤ p.win))
    · have HG : Hid (false = true ↔ GoodP p) := by show _ ↔ _; rw [← HGI.out]; unfold goodPB; simp only [h17, h0, h1, h2, h3, h4, h5, h6, h7, h8, Bool.true_and, Bool.false_and, Bool.and_false, Bool.and_true, cond_true, cond_false]
      go_wp2_with fail
      go_ret
      exact ⟨_, rfl, HG, hbb⟩
    cases h9 : (decide (p.win ≤ 65535))
    · have HG : Hid (false = true ↔ GoodP p) := by show _ ↔ _; rw [← HGI.out]; unfold goodPB; simp only [h17, h0, h1, h2, h3, h4, h5, h6, h7, h8, h9, Bool.true_and, Bool.false_and, Bool.and_false, Bool.and_true, cond_true, cond_false]
      go_wp2_with fail
      go_ret
      exact ⟨_, rfl, HG, hbb⟩
    cases h10 : (decide ((p.data.length : Int) ≤ 1460))
    · have HG : Hid (false = true ↔ GoodP p) := by show _ ↔ _; rw [← HGI.out]; unfold goodPB; simp only [h17, h0, h1, h2, h3, h4, h5, h6, h7, h8, h9, h10, Bool.true_and, Bool.false_and, Bool.and_false, Bool.and_true, cond_true, cond_false]
      go_wp2_with fail
      go_ret
      exact ⟨_, rfl, HG, hbb⟩
    have HG : Hid (GoodP p) := by show GoodP p; rw [← HGI.out]; unfold goodPB; simp only [h17, h0, h1, h2, h3, h4, h5, h6, h7, h8, h9, h10, Bool.true_and, Bool.and_true, cond_true, cond_false]
    go_wp2_with fail
    go_ret
    exact ⟨_, rfl, ⟨fun _ => HG.out, fun _ => rfl⟩, hbb⟩
  focus
    cases h0 : (decide (0 ≤ p.tos))
    · have HG : Hid (false = true ↔ GoodP p) := by show _ ↔ _; rw [← HGI.out]; unfold goodPB; simp only [h17, h0, Bool.true_and, Bool.false_and, Bool.and_false, Bool.and_true, cond_true, cond_false]
      go_wp2_with fail
      go_ret
      exact ⟨_, rfl, HG, hbb⟩
    cases h1 : (decide (p.tos ≤ 255))
    · have HG : Hid (false = true ↔ GoodP p) := by show _ ↔ _; rw [← HGI.out]; unfold goodPB; simp only [h17, h0, h1, Bool.true_and, Bool.false_and, Bool.and_false, Bool.and_true, cond_true, cond_false]
      go_wp2_with fail
      go_ret
      exact ⟨_, rfl, HG, hbb⟩
    cases h2 : (decide (0 ≤ p.id))
    · have HG : Hid (false = true ↔ GoodP p) := by show _ ↔ _; rw [← HGI.out]; unfold goodPB; simp only [h17, h0, h1, h2, Bool.true_and, Bool.false_and, Bool.and_false, Bool.and_true, cond_true, cond_false]
      go_wp2_with fail
      go_ret
      exact ⟨_, rfl, HG, hbb⟩
    cases h3 : (decide (p.id ≤ 65535))
    · have HG : Hid (false = true ↔ GoodP p) := by show _ ↔ _; rw [← HGI.out]; unfold goodPB; simp only [h17, h0, h1, h2, h3, Bool.true_and, Bool.false_and, Bool.and_false, Bool.and_true, cond_true, cond_false]
      go_wp2_with fail
      go_ret
      exact ⟨_, rfl, HG, hbb⟩
    cases h4 : (decide (1 ≤ p.ttl))
    · have HG : Hid (false = true ↔ GoodP p) := by show _ ↔ _; rw [← HGI.out]; unfold goodPB; simp only [h17, h0, h1, h2, h3, h4, Bool.true_and, Bool.false_and, Bool.and_false, Bool.and_true, cond_true, cond_false]
      go_wp2_with fail
      go_ret
      exact ⟨_, rfl, HG, hbb⟩
    cases h5 : (decide (p.ttl ≤ 255))
    · have HG : Hid (false = true ↔ GoodP p) := by show _ ↔ _; rw [← HGI.out]; unfold goodPB; simp only [h17, h0, h1, h2, h3, h4, h5, Bool.true_and, Bool.false_and, Bool.and_false, Bool.and_true, cond_true, cond_false]
      go_wp2_with fail
      go_ret
      exact ⟨_, rfl, HG, hbb⟩
    cases h6 : (decide (0 ≤ p.flags))
    · have HG : Hid (false = true ↔ GoodP p) := by show _ ↔ _; rw [← HGI.out]; unfold goodPB; simp only [h17, h0, h1, h2, h3, h4, h5, h6, Bool.true_and, Bool.false_and, Bool.and_false, Bool.and_true, cond_true, cond_false]
      go_wp2_with fail
      go_ret
      exact ⟨_, rfl, HG, hbb⟩
    cases h7 : (decide (p.flags ≤ 255))
    · have HG : Hid (false = true ↔ GoodP p) := by show _ ↔ _; rw [← HGI.out]; unfold goodPB; simp only [h17, h0, h1, h2, h3, h4, h5, h6, h7, Bool.true_and, Bool.false_and, Bool.and_false, Bool.and_true, cond_true, cond_false]
      go_wp2_with fail
      go_ret
      exact ⟨_, rfl, HG, hbb⟩
    cases h8 : (decide (0 ≤ p.win))
    · have HG : Hid (false = true ↔ GoodP p) := by show _ ↔ _; rw [← HGI.out]; unfold goodPB; simp only [h17, h0, h1, h2, h3, h4, h5, h6, h7, h8, Bool.true_and, Bool.false_and, Bool.and_false, Bool.and_true, cond_true, cond_false]
      go_wp2_with fail
      go_ret
      exact ⟨_, rfl, HG, hbb⟩
    cases h9 : (decide (p.win ≤ 65535))
    · have HG : Hid (false = true ↔ GoodP p) := by show _ ↔ _; rw [← HGI.out]; unfold goodPB; simp only [h17, h0, h1, h2, h3, h4, h5, h6, h7, h8, h9, Bool.true_and, Bool.false_and, Bool.and_false, Bool.and_true, cond_true, cond_false]
      go_wp2_with fail
      go_ret
      exact ⟨_, rfl, HG, hbb⟩
    cases h10 : (p.seq == 0)
    · have HG : Hid (false = true ↔ GoodP p) := by show _ ↔ _; rw [← HGI.out]; unfold goodPB; simp only [h17, h0, h1, h2, h3, h4, h5, h6, h7, h8, h9, h10, Bool.true_and, Bool.false_and, Bool.and_false, Bool.and_true, cond_true, cond_false]
      go_wp2_with fail
      go_ret
      exact ⟨_, rfl, HG, hbb⟩
    cases h11 : (p.ack == 0)
    · have HG : Hid (false = true ↔ GoodP p) := by show _ ↔ _; rw [← HGI.out]; unfold goodPB; simp only [h17, h0, h1, h2, h3, h4, h5, h6, h7, h8, h9, h10, h11, Bool.true_and, Bool.false_and, Bool.and_false, Bool.and_true, cond_true, cond_false]
      go_wp2_with fail
      go_ret
      exact ⟨_, rfl, HG, hbb⟩
    cases h12 : (p.flags == 0)
    · have HG : Hid (false = true ↔ GoodP p) := by show _ ↔ _; rw [← HGI.out]; unfold goodPB; simp only [h17, h0, h1, h2, h3, h4, h5, h6, h7, h8, h9, h10, h11, h12, Bool.true_and, Bool.false_and, Bool.and_false, Bool.and_true, cond_true, cond_false]
      go_wp2_with fail
      go_ret
      exact ⟨_, rfl, HG, hbb⟩
    cases h13 : (p.win == 0)
    · have HG : Hid (false = true ↔ GoodP p) := by show _ ↔ _; rw [← HGI.out]; unfold goodPB; simp only [h17, h0, h1, h2, h3, h4, h5, h6, h7, h8, h9, h10, h11, h12, h13, Bool.true_and, Bool.false_and, Bool.and_false, Bool.and_true, cond_true, cond_false]
      go_wp2_with fail
      go_ret
      exact ⟨_, rfl, HG, hbb⟩
    cases h14 : (decide ((p.data.length : Int) ≤ 1472))
    · have HG : Hid (false = true ↔ GoodP p) := by show _ ↔ _; rw [← HGI.out]; unfold goodPB; simp only [h17, h0, h1, h2, h3, h4, h5, h6, h7, h8, h9, h10, h11, h12, h13, h14, Bool.true_and, Bool.false_and, Bool.and_false, Bool.and_true, cond_true, cond_false]
      go_wp2_with fail
      go_ret
      exact ⟨_, rfl, HG, hbb⟩
    have HG : Hid (GoodP p) := by show GoodP p; rw [← HGI.out]; unfold goodPB; simp only [h17, h0, h1, h2, h3, h4, h5, h6, h7, h8, h9, h10, h11, h12, h13, h14, Bool.true_and, Bool.and_true, cond_true, cond_false]
    go_wp2_with fail
    go_ret
    exact ⟨_, rfl, ⟨fun _ => HG.out, fun _ => rfl⟩, hbb⟩
end Go.Proofs.Ytbhdjalpkecbeaa
