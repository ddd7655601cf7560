/- The walk of RewriteKeeps. -/
import Derived.Test.YtbhdjalpkecbeaaRwUni
namespace Go.Proofs.Ytbhdjalpkecbeaa
set_option linter.unusedVariables false
set_option linter.unusedSimpArgs false
open Go.RowKit

theorem bW_free (p : Pk) (s1 s2 d1 d2 sp dp ch co s1' s2' d1' d2' sp' dp' ch' co' i : Nat) (h : i < 10 ∨ 24 ≤ i) (h1 : i ≠ ownAt p) (h2 : i ≠ ownAt p + 1) :
    (bW p s1 s2 d1 d2 sp dp ch co)[i]? = (bW p s1' s2' d1' d2' sp' dp' ch' co')[i]? := by
  rw [bW_cons, bW_cons]
  match i, h, h1, h2 with
  | 0, _, _, _ => rfl
  | 1, _, _, _ => rfl
  | 2, _, _, _ => rfl
  | 3, _, _, _ => rfl
  | 4, _, _, _ => rfl
  | 5, _, _, _ => rfl
  | 6, _, _, _ => rfl
  | 7, _, _, _ => rfl
  | 8, _, _, _ => rfl
  | 9, _, _, _ => rfl
  | 10, h, _, _ => omega
  | 11, h, _, _ => omega
  | 12, h, _, _ => omega
  | 13, h, _, _ => omega
  | 14, h, _, _ => omega
  | 15, h, _, _ => omega
  | 16, h, _, _ => omega
  | 17, h, _, _ => omega
  | 18, h, _, _ => omega
  | 19, h, _, _ => omega
  | 20, h, _, _ => omega
  | 21, h, _, _ => omega
  | 22, h, _, _ => omega
  | 23, h, _, _ => omega
  | j + 24, _, h1, h2 =>
    show (if p.fl.proto = 17 then restU p co else restT p co)[j]? = (if p.fl.proto = 17 then restU p co' else restT p co')[j]?
    unfold ownAt at h1 h2
    by_cases hp : p.fl.proto = 17
    · rw [if_pos hp] at h1 h2
      rw [if_pos hp, if_pos hp, restU_cons, restU_cons]
      match j, h1, h2 with
      | 0, _, _ => rfl
      | 1, _, _ => rfl
      | 2, h1, _ => omega
      | 3, _, h2 => omega
      | k + 4, _, _ => rfl
    · rw [if_neg hp] at h1 h2
      rw [if_neg hp, if_neg hp, restT_cons, restT_cons]
      match j, h1, h2 with
      | 0, _, _ => rfl
      | 1, _, _ => rfl
      | 2, _, _ => rfl
      | 3, _, _ => rfl
      | 4, _, _ => rfl
      | 5, _, _ => rfl
      | 6, _, _ => rfl
      | 7, _, _ => rfl
      | 8, _, _ => rfl
      | 9, _, _ => rfl
      | 10, _, _ => rfl
      | 11, _, _ => rfl
      | 12, h1, _ => omega
      | 13, _, h2 => omega
      | k + 14, _, _ => rfl
theorem build_bW {p : Pk} (hg : GoodP p) (hu : U32s p) : ∃ s1 s2 d1 d2 sp dp ch co, build p = bW p s1 s2 d1 d2 sp dp ch co := by
  have e := pkW_own p hg hu
  have h1 : p.fl.src.toNat / 65536 ≤ 65535 := by have := hu.1; omega
  have h2 : p.fl.src.toNat % 65536 ≤ 65535 := by omega
  have h3 : p.fl.dst.toNat / 65536 ≤ 65535 := by have := hu.2.1; omega
  have h4 : p.fl.dst.toNat % 65536 ≤ 65535 := by omega
  have := build_w p _ _ _ _ p.fl.sp.toNat p.fl.dp.toNat h1 h2 h3 h4
  rw [e] at this
  exact ⟨_, _, _, _, _, _, _, _, this⟩
theorem bW_setFl (p : Pk) (f : Fl) (h : f.proto = p.fl.proto) (s1 s2 d1 d2 sp dp ch co : Nat) : bW (setFl p f) s1 s2 d1 d2 sp dp ch co = bW p s1 s2 d1 d2 sp dp ch co := by
  obtain ⟨tos, id, ttl, ⟨proto, src, p1, dst, p2⟩, sq, ak, flags, win, data⟩ := p
  obtain ⟨fp, fs, fsp, fd, fdp⟩ := f
  simp only at h
  subst h
  rfl
theorem setFl_free (p : Pk) (f : Fl) (hg : GoodP p) (hu : U32s p) (hg' : GoodP (setFl p f)) (hu' : U32s (setFl p f)) (h : f.proto = p.fl.proto) (i : Nat) (h0 : i < 10 ∨ 24 ≤ i) (h1 : i ≠ ownAt p) (h2 : i ≠ ownAt p + 1) :
    (build (setFl p f))[i]? = (build p)[i]? := by
  obtain ⟨s1, s2, d1, d2, sp, dp, ch, co, e⟩ := build_bW hg hu
  obtain ⟨t1, t2, u1, u2, tp, up, dh, do', e'⟩ := build_bW hg' hu'
  rw [bW_setFl p f h] at e'
  rw [e, e']
  exact bW_free p _ _ _ _ _ _ _ _ _ _ _ _ _ _ _ _ i h0 h1 h2
theorem isPk_b9 {b : List UInt8} {p : Pk} (h : IsPk b p) : (b1 b 9 : Int) = p.fl.proto := by rw [isPk_opn h]; exact (opn_fl b).1.symm
theorem free_at {l wq : List UInt8} {i n : Nat} (h : wq[i]? = l[i]?) (hl : l.length = n) (hw : wq.length = n) (hi : i < n) : wq[i]'(by omega) = l[i]'(by omega) := by
  rw [List.getElem?_eq_getElem (by omega), List.getElem?_eq_getElem (by omega)] at h
  injection h
set_option maxRecDepth 100000 in
set_option maxHeartbeats 12800000 in
theorem RewriteKeeps_walk (l : List UInt8) (B : Option Addr) (c : Nat) (xa xp : Int) (f : Fl) (w : World) (hc : l.length ≤ c) (hB : RB w B l) (hbl : l.length ≤ 1048576) (hs : 0 ≤ f.src ∧ f.src ≤ 4294967295) (hd : 0 ≤ f.dst ∧ f.dst ≤ 4294967295) :
    Calls Try.prog 6 #[.agg #[.slice B l.length c, .int .u32 xa, .int .i64 xp, .int .i64 f.proto, .int .u32 f.src, .int .i64 f.sp, .int .u32 f.dst, .int .i64 f.dp]] w fun e w' => e = .returned (.bool true) ∧ Below w.heap.size w w' := by
  have HS := Lib.hid hs
  have HD := Lib.hid hd
  clear hs hd
  have hb0 : Below w.heap.size w (w.alloc (.cells #[.slice B l.length c, .int .u32 xa, .int .i64 xp, .int .i64 f.proto, .int .u32 f.src, .int .i64 f.sp, .int .u32 f.dst, .int .i64 f.dp] 28)) := (Below.refl _ w).alloc (Nat.le_refl _) _
  have hX : Blk (w.alloc (.cells #[.slice B l.length c, .int .u32 xa, .int .i64 xp, .int .i64 f.proto, .int .u32 f.src, .int .i64 f.sp, .int .u32 f.dst, .int .i64 f.dp] 28)) w.heap.size 28 [.slice B l.length c, .int .u32 xa, .int .i64 xp, .int .i64 f.proto, .int .u32 f.src, .int .i64 f.sp, .int .u32 f.dst, .int .i64 f.dp] := Blk.new w _ _
  go_enter Try.func6, Try.ntmps6
  go_wp2_with fail
  generalize (w.alloc (.cells #[.slice B l.length c, .int .u32 xa, .int .i64 xp, .int .i64 f.proto, .int .u32 f.src, .int .i64 f.sp, .int .u32 f.dst, .int .i64 f.dp] 28)) = wa at *
  have hsa := hb0.size
  (with_reducible refine (alive_any wa).mono ?_)
  rintro e w1 ⟨rfl, hb1⟩
  have d0 := below_call hb0 hb1
  have hs1 := hb1.size
  replace hX := hX.kept hb1
  clear hb0 hb1
  obtain ⟨n, hn⟩ : ∃ n, n = l.length := ⟨_, rfl⟩
  have HN := Lib.hid hn.symm
  rw [← hn] at hX hc hbl ⊢
  clear hn
  obtain ⟨c0, c1, c2, c3, c4, c5, c6, c7⟩ := blk8 hX
  by_cases hp : IsPk l (opn l)
  rotate_left
  · have HNO := Lib.hid (fun q (hq : IsPk l q) => hp (isPk_any hq))
    clear hp
    go_wp2_with fail
    (with_reducible refine (both_no l f B n c w1 HN.out (hB.below d0) hc HNO.out).mono ?_)
    rintro e w2 ⟨rfl, hb2⟩
    have hw2 := below_call d0 hb2
    clear c0 c1 c2 c3 c4 c5 c6 c7
    have q1 := er_eql 2 2 w2
    have q2 := er_eql 2 9 w2
    go_wp2_with fail
    go_ret
    exact ⟨rfl, hw2⟩
  have HP := Lib.hid hp
  clear hp
  by_cases hgf : GoodF f ∧ f.proto = (opn l).fl.proto
  rotate_left
  · have HBAD := Lib.hid hgf
    clear hgf
    go_wp2_with fail
    (with_reducible refine (both_bad l (opn l) f B n c w1 HN.out (hB.below d0) hc HP.out HBAD.out).mono ?_)
    rintro e w2 ⟨rfl, hb2⟩
    have hw2 := below_call d0 hb2
    clear c0 c1 c2 c3 c4 c5 c6 c7
    have q1 := er_eql 9 2 w2
    have q2 := er_eql 9 9 w2
    go_wp2_with fail
    go_ret
    exact ⟨rfl, hw2⟩
  have HG := Lib.hid hgf
  clear hgf
  have hn28 : 28 ≤ n := by have := (isPk_shape HP.out).1; rw [HN.out] at this; exact this
  go_wp2_with fail
  (with_reducible refine (both_good l (opn l) f B n c w1 HN.out (hB.below d0) hc HP.out HG.out.1 HG.out.2 HS.out HD.out).mono ?_)
  rintro e w2 ⟨X, k, rfl, hk, hR, -, hb⟩
  replace d0 := below_call d0 hb
  replace hX := hX.kept hb
  clear c0 c1 c2 c3 c4 c5 c6 c7 hb
  have HGU := Lib.hid (setFl_good HP.out.1 HP.out.2.1 HG.out.1 HS.out HD.out HG.out.2)
  have HWL : Hid ((build (setFl (opn l) f)).length = n) := by show _ = _; rw [setFl_len HG.out.2, HP.out.2.2, HN.out]
  have HFREE : Hid (∀ i, (i < 10 ∨ 24 ≤ i) → i ≠ ownAt (opn l) → i ≠ ownAt (opn l) + 1 → (build (setFl (opn l) f))[i]? = l[i]?) := fun i h0 h1 h2 => by
    have h3 := setFl_free (opn l) f HP.out.1 HP.out.2.1 HGU.out.1 HGU.out.2 HG.out.2 i h0 h1 h2
    rw [h3, HP.out.2.2]
  have HB9 : Hid ((b1 (build (setFl (opn l) f)) 9 : Int) = (opn l).fl.proto) := by
    show _ = _
    rw [isPk_b9 (isPk_build HGU.out.1 HGU.out.2)]
    exact HG.out.2
  have hpr := HP.out.1.1.1
  have hBl := hB.below d0
  generalize build (setFl (opn l) f) = wq at *
  obtain ⟨ad, rfl, -⟩ := hR.at_ 0 (by rw [HWL.out]; omega)
  have h9 := rb_b1 hR 9 (by rw [HWL.out]; omega) (by omega)
  rw [HB9.out] at h9
  have hkn : (9 : Int) < (n : Int) := by omega
  have hn28i : decide ((n : Int) < 28) = false := by simp; omega
  have hown : ownAt (opn l) = if (opn l).fl.proto = 17 then 26 else 36 := rfl
  generalize ownAt (opn l) = oa at *
  have hpr : (opn l).fl.proto = 6 ∨ (opn l).fl.proto = 17 := hpr
  clear HGU HB9 HG HS HD HP
  generalize (opn l).fl.proto = pr at *
  obtain ⟨c0, c1, c2, c3, c4, c5, c6, c7⟩ := blk8 hX
  rcases hpr with rfl | rfl
  · replace hown : oa = 36 := hown
    subst hown
    go_wp2_with fail
    clear h9 c0 c1 c2 c3 c4 c5 c6 c7
    go_loopw [50] (fun i wr => ∃ k : Nat, k ≤ n ∧ i = .int .i64 (k : Int) ∧ Below w2.heap.size w2 wr) (fun i _ => n - (intOf i).toNat)
    case atStart => exact ⟨0, Nat.zero_le _, rfl, Below.refl _ _⟩
    case round =>
      obtain ⟨i, hi, rfl, hb⟩ := hrel
      by_cases hlt : i < n
      · obtain ⟨aB, rfl, cB⟩ := (hBl.below hb).at_ i (by rw [HN.out]; exact hlt)
        obtain ⟨aX, eX, cX⟩ := (hR.below hb).at_ i (by rw [HWL.out]; exact hlt)
        injection eX with eX
        subst eX
        obtain ⟨c0, c1, c2, c3, c4, c5, c6, c7⟩ := blk8 (hX.kept hb)
        have g0 : (0 : Int) ≤ (i : Int) := by omega
        have gn : (i : Int) < (n : Int) := by omega
        by_cases hf : (i < 10 ∨ 24 ≤ i) ∧ i ≠ 36 ∧ i ≠ 36 + 1
        · rw [free_at (HFREE.out i hf.1 hf.2.1 hf.2.2) HN.out HWL.out hlt] at cX
          have e1 : (decide ((10 : Int) ≤ (i : Int)) && decide ((i : Int) < 24)) = false := by simp; omega
          have e2 : ((i : Int) == 36) = false := by simp; omega
          have e3 : ((i : Int) == 37) = false := by simp; omega
          clear hf
          generalize l[i]'(by rw [HN.out]; exact hlt) = u at *
          by_cases h10 : i < 10
          · have e4 : decide ((10 : Int) ≤ (i : Int)) = false := by simp; omega
            clear e1 h10
            go_wp2_with fail
            go_quiet (fail)
            go_wp2_with fail
            go_roundw
            case rel => exact ⟨i + 1, by omega, by go_num, ⟨hb.os, hb.tape, hb.output, hb.size, hb.block⟩⟩
            case measure => simp [intOf]; omega
          · have e4 : (10 : Int) ≤ (i : Int) := by omega
            have e5 : decide ((i : Int) < 24) = false := by simp at e1 ⊢; omega
            clear e1 h10
            go_wp2_with fail
            go_quiet (fail)
            go_wp2_with fail
            go_roundw
            case rel => exact ⟨i + 1, by omega, by go_num, ⟨hb.os, hb.tape, hb.output, hb.size, hb.block⟩⟩
            case measure => simp [intOf]; omega
        · clear cX cB
          by_cases h24 : i < 24
          · have e4 : (10 : Int) ≤ (i : Int) := by omega
            have e5 : (i : Int) < 24 := by omega
            clear hf h24
            go_wp2_with fail
            go_quiet (fail)
            go_wp2_with fail
            go_roundw
            case rel => exact ⟨i + 1, by omega, by go_num, ⟨hb.os, hb.tape, hb.output, hb.size, hb.block⟩⟩
            case measure => simp [intOf]; omega
          · have e4 : (10 : Int) ≤ (i : Int) := by omega
            have e5 : decide ((i : Int) < 24) = false := by simp; omega
            have e6 : i = 36 ∨ i = 37 := by omega
            clear hf h24
            rcases e6 with h | h
            · have e7 : ((i : Int) == 36) = true := by simp; omega
              clear h
              go_wp2_with fail
              go_quiet (fail)
              go_wp2_with fail
              go_roundw
              case rel => exact ⟨i + 1, by omega, by go_num, ⟨hb.os, hb.tape, hb.output, hb.size, hb.block⟩⟩
              case measure => simp [intOf]; omega
            · have e7 : ((i : Int) == 36) = false := by simp; omega
              have e8 : ((i : Int) == 37) = true := by simp; omega
              clear h
              go_wp2_with fail
              go_quiet (fail)
              go_wp2_with fail
              go_roundw
              case rel => exact ⟨i + 1, by omega, by go_num, ⟨hb.os, hb.tape, hb.output, hb.size, hb.block⟩⟩
              case measure => simp [intOf]; omega
      · have e1 : decide ((i : Int) < (n : Int)) = false := by simp; omega
        go_wp2_with fail
        go_ret
        exact ⟨rfl, below_call d0 hb⟩
  · replace hown : oa = 26 := hown
    subst hown
    go_wp2_with fail
    clear h9 c0 c1 c2 c3 c4 c5 c6 c7
    go_loopw [50] (fun i wr => ∃ k : Nat, k ≤ n ∧ i = .int .i64 (k : Int) ∧ Below w2.heap.size w2 wr) (fun i _ => n - (intOf i).toNat)
    case atStart => exact ⟨0, Nat.zero_le _, rfl, Below.refl _ _⟩
    case round =>
      obtain ⟨i, hi, rfl, hb⟩ := hrel
      by_cases hlt : i < n
      · obtain ⟨aB, rfl, cB⟩ := (hBl.below hb).at_ i (by rw [HN.out]; exact hlt)
        obtain ⟨aX, eX, cX⟩ := (hR.below hb).at_ i (by rw [HWL.out]; exact hlt)
        injection eX with eX
        subst eX
        obtain ⟨c0, c1, c2, c3, c4, c5, c6, c7⟩ := blk8 (hX.kept hb)
        have g0 : (0 : Int) ≤ (i : Int) := by omega
        have gn : (i : Int) < (n : Int) := by omega
        by_cases hf : (i < 10 ∨ 24 ≤ i) ∧ i ≠ 26 ∧ i ≠ 26 + 1
        · rw [free_at (HFREE.out i hf.1 hf.2.1 hf.2.2) HN.out HWL.out hlt] at cX
          have e1 : (decide ((10 : Int) ≤ (i : Int)) && decide ((i : Int) < 24)) = false := by simp; omega
          have e2 : ((i : Int) == 26) = false := by simp; omega
          have e3 : ((i : Int) == 27) = false := by simp; omega
          clear hf
          generalize l[i]'(by rw [HN.out]; exact hlt) = u at *
          by_cases h10 : i < 10
          · have e4 : decide ((10 : Int) ≤ (i : Int)) = false := by simp; omega
            clear e1 h10
            go_wp2_with fail
            go_quiet (fail)
            go_wp2_with fail
            go_roundw
            case rel => exact ⟨i + 1, by omega, by go_num, ⟨hb.os, hb.tape, hb.output, hb.size, hb.block⟩⟩
            case measure => simp [intOf]; omega
          · have e4 : (10 : Int) ≤ (i : Int) := by omega
            have e5 : decide ((i : Int) < 24) = false := by simp at e1 ⊢; omega
            clear e1 h10
            go_wp2_with fail
            go_quiet (fail)
            go_wp2_with fail
            go_roundw
            case rel => exact ⟨i + 1, by omega, by go_num, ⟨hb.os, hb.tape, hb.output, hb.size, hb.block⟩⟩
            case measure => simp [intOf]; omega
        · clear cX cB
          by_cases h24 : i < 24
          · have e4 : (10 : Int) ≤ (i : Int) := by omega
            have e5 : (i : Int) < 24 := by omega
            clear hf h24
            go_wp2_with fail
            go_quiet (fail)
            go_wp2_with fail
            go_roundw
            case rel => exact ⟨i + 1, by omega, by go_num, ⟨hb.os, hb.tape, hb.output, hb.size, hb.block⟩⟩
            case measure => simp [intOf]; omega
          · have e4 : (10 : Int) ≤ (i : Int) := by omega
            have e5 : decide ((i : Int) < 24) = false := by simp; omega
            have e6 : i = 26 ∨ i = 27 := by omega
            clear hf h24
            rcases e6 with h | h
            · have e7 : ((i : Int) == 26) = true := by simp; omega
              clear h
              go_wp2_with fail
              go_quiet (fail)
              go_wp2_with fail
              go_roundw
              case rel => exact ⟨i + 1, by omega, by go_num, ⟨hb.os, hb.tape, hb.output, hb.size, hb.block⟩⟩
              case measure => simp [intOf]; omega
            · have e7 : ((i : Int) == 26) = false := by simp; omega
              have e8 : ((i : Int) == 27) = true := by simp; omega
              clear h
              go_wp2_with fail
              go_quiet (fail)
              go_wp2_with fail
              go_roundw
              case rel => exact ⟨i + 1, by omega, by go_num, ⟨hb.os, hb.tape, hb.output, hb.size, hb.block⟩⟩
              case measure => simp [intOf]; omega
      · have e1 : decide ((i : Int) < (n : Int)) = false := by simp; omega
        go_wp2_with fail
        go_ret
        exact ⟨rfl, below_call d0 hb⟩
theorem RewriteKeepsX_walk {H : Type} {da : DataW H} (x : Rwn) (v : Value) (w : World) (o : RwIs w v da x) (b : Rows.uptoBulk da ≤ 1048576) :
    Calls Try.prog 6 #[v] w fun e w' => e = .returned (.bool true) ∧ Below w.heap.size w w' := by
  obtain ⟨B, c, rfl, h1, h2, h3, h4, h5, h6⟩ := o
  exact RewriteKeeps_walk x.l B c x.a x.port x.f w h1 h2 (by omega) h4 h5
end Go.Proofs.Ytbhdjalpkecbeaa
