/- The law of RewriteSums in plain words, and the walk of its 'word'. -/
import Derived.Test.YtbhdjalpkecbeaaRwOne
namespace Go.Proofs.Ytbhdjalpkecbeaa
set_option linter.unusedVariables false
set_option linter.unusedSimpArgs false
open Go.RowKit

set_option maxHeartbeats 1600000 in
theorem lword_any (b : List UInt8) (A : Option Addr) (n c i : Nat) (i' : Int) (m : Nat) (w : World) (hA : RB w A b) (hn : b.length = n) (hi : i + 1 < n) (hl : n ≤ 4000000) (ei : i' = (i : Int)) (hm : b2 b i = m) :
    Calls Try.prog 11 #[.slice A n c, .int .i64 i'] w fun e w' => e = .returned (.int .u16 (m : Int)) ∧ ∃ k, w' = w.drewN k := by
  subst hn ei hm
  obtain ⟨ad, rfl, c0⟩ := hA.at_ i (by omega)
  obtain ⟨ad', e, c1⟩ := hA.at_ (i + 1) (by omega)
  injection e with e
  subst e
  have e0 : b1 b i = b[i].toNat := by unfold b1; simp [List.getD, List.getElem?_eq_getElem (show i < b.length by omega)]
  have e1 : b1 b (i + 1) = b[i + 1].toNat := by unfold b1; simp [List.getD, List.getElem?_eq_getElem (show i + 1 < b.length by omega)]
  have HE : Hid (b2 b i = 256 * b[i].toNat + b[i + 1].toNat) := by show b2 b i = _; unfold b2; rw [e0, e1]
  clear e0 e1
  generalize b[i]'(by omega) = x at *
  generalize b[i + 1] = y at *
  rw [add_pos' ad (i + 1) (by omega)] at c1
  have hxl := x.toNat_lt
  have hyl := y.toNat_lt
  have w1 : IntKind.u16.wrap (x.toNat : Int) = (x.toNat : Int) := IntWalk.u16_in _ (by omega)
  have w2 : IntKind.u16.wrap ((x.toNat : Int) * 256) = ((x.toNat * 256 : Nat) : Int) := by rw [IntWalk.u16_in _ (by omega)]; omega
  have w3 : IntKind.u16.wrap (y.toNat : Int) = (y.toNat : Int) := IntWalk.u16_in _ (by omega)
  have w4 := u16_join8 x.toNat y.toNat hxl hyl
  rw [← HE.out] at w4
  obtain ⟨z, hz⟩ : ∃ z, x.toNat * 256 = z := ⟨_, rfl⟩
  rw [hz] at w2 w4
  clear hz
  have i1 : (i : Int) < (b.length : Int) := by omega
  have i2 : (i : Int) + 1 < (b.length : Int) := by omega
  have i0 : (0 : Int) ≤ (i : Int) := by omega
  have i3 : (0 : Int) ≤ (i : Int) + 1 := by omega
  have i4 : ((i : Int) + 1).toNat = i + 1 := by omega
  have i5 : IntKind.i64.wrap ((i : Int) + 1) = (i : Int) + 1 := IntWalk.i64_in _ (by omega)
  go_enter Try.func11, Try.ntmps11
  go_wp2_with fail
  go_quiet (fail)
  go_wp2_with fail
  go_ret
  exact ⟨rfl, _, rfl⟩
theorem isPk_9 {b : List UInt8} {p : Pk} (h : IsPk b p) : (b1 b 9 : Int) = p.fl.proto := by rw [isPk_opn h]; exact (opn_fl b).1.symm
theorem blk_rc {w : World} {g : Nat} {t : TypeId} {cs : List Value} (h : Blk w g t cs) : RC w (some ⟨g, 0, none⟩) cs := fun j u hu => ⟨_, rfl, by rw [add_lit0, h.cell j, hu]⟩
theorem update2_n (c0 r a b x y g : Nat) (t : TypeId) (w : World) (h0 : c0 ≤ 65535) (hB : Blk w g t [.int .u16 (a : Int), .int .u16 (b : Int), .int .u16 (x : Int), .int .u16 (y : Int)]) (ha : a ≤ 65535 ∧ b ≤ 65535 ∧ x ≤ 65535 ∧ y ≤ 65535) (hr : upd c0 [(a, b), (x, y)] = r) :
    Calls Try.prog 12 #[.int .u16 (c0 : Int), .slice (some ⟨g, 0, none⟩) 2 2] w fun e w' => e = .returned (.int .u16 (r : Int)) ∧ Below w.heap.size w w' := by
  subst hr
  exact update_any c0 [(a, b), (x, y)] _ 2 w h0 (RQ.mk (by simp; omega) (blk_rc hB)) (by simp)
theorem update3_n (c0 r a b x y u v g : Nat) (t : TypeId) (w : World) (h0 : c0 ≤ 65535) (hB : Blk w g t [.int .u16 (a : Int), .int .u16 (b : Int), .int .u16 (x : Int), .int .u16 (y : Int), .int .u16 (u : Int), .int .u16 (v : Int)]) (ha : a ≤ 65535 ∧ b ≤ 65535 ∧ x ≤ 65535 ∧ y ≤ 65535 ∧ u ≤ 65535 ∧ v ≤ 65535) (hr : upd c0 [(a, b), (x, y), (u, v)] = r) :
    Calls Try.prog 12 #[.int .u16 (c0 : Int), .slice (some ⟨g, 0, none⟩) 3 3] w fun e w' => e = .returned (.int .u16 (r : Int)) ∧ Below w.heap.size w w' := by
  subst hr
  exact update_any c0 [(a, b), (x, y), (u, v)] _ 3 w h0 (RQ.mk (by simp; omega) (blk_rc hB)) (by simp)
/-- A sum as it stands while words change: the right one, or the other way to say none. -/
def Rt (S c : Nat) : Prop := c = 65535 - fold16 S ∨ (c = 65535 ∧ fold16 S = 65535)
theorem rt_step (S S' m x c : Nat) (hR : Rt S c) (h0 : 0 < S) (h1 : 0 < S') (h : S' + m = S + x) (hm : m ≤ 65535) : Rt S' (upd1 c (m, x)) := by
  rcases hR with rfl | ⟨rfl, hfs⟩
  · exact .inl (upd_hd S S' m x h0 h1 h hm)
  · have e2 : upd1 65535 (m, x) = 65535 - fold16 (65535 - m + x) := by unfold upd1; simp only; rw [show 65535 - 65535 + (65535 - m) + x = 65535 - m + x by omega]
    by_cases hzz : 65535 - m + x = 0
    · have hm2 : m = 65535 := by omega
      have hx2 : x = 0 := by omega
      have e3 : fold16 S' = 65535 := by
        have h3 := fold16_mod S
        exact fold16_full S' h1 (by omega)
      have f0 : fold16 0 = 0 := rfl
      exact .inr ⟨by rw [e2, hzz, f0], e3⟩
    · refine .inl ?_
      have e3 : fold16 (65535 - m + x) = fold16 S' := by
        have h3 := fold16_mod S
        unfold fold16
        rw [if_neg hzz, if_neg (show ¬ S' = 0 by omega)]
        omega
      rw [e2, e3]
theorem rt_st (p : Pk) (S c : Nat) (h : Rt S c) (hp : p.fl.proto = 17) : (if c = 0 then 65535 else c) = stO p (65535 - fold16 S) := by
  have hf := fold16_le S
  rcases h with rfl | ⟨rfl, hfs⟩
  · unfold stO
    simp only [hp, and_true]
  · unfold stO
    rw [hfs]
    simp [hp]
/-- The words of what was built, before and after. -/
structure Dw (l l' : List UInt8) (p : Pk) (a port : Nat) : Prop where
  ip : upd1 (upd1 (b2 l 10) (b2 l 16, a / 65536)) (b2 l 18, a % 65536) = b2 l' 10
  own : (if upd1 (upd1 (upd1 (b2 l (ownAt p)) (b2 l 16, a / 65536)) (b2 l 18, a % 65536)) (b2 l 22, port) = 0 ∧ p.fl.proto = 17 then 65535 else upd1 (upd1 (upd1 (b2 l (ownAt p)) (b2 l 16, a / 65536)) (b2 l 18, a % 65536)) (b2 l 22, port)) = b2 l' (ownAt p)
theorem dst_words (p : Pk) (hg : GoodP p) (hu : U32s p) (a port : Nat) (ha : a ≤ 4294967295) (hp : port ≤ 65535) : Dw (build p) (build (setDst p a port)) p a port := by
  have hw := wok_of hg
  obtain ⟨⟨-, hsp, hdp⟩, -⟩ := id hg
  obtain ⟨hs, hd, -⟩ := id hu
  have e := build_w p (p.fl.src.toNat / 65536) (p.fl.src.toNat % 65536) (p.fl.dst.toNat / 65536) (p.fl.dst.toNat % 65536) p.fl.sp.toNat p.fl.dp.toNat (by omega) (by omega) (by omega) (by omega)
  rw [pkW_own p hg hu] at e
  have e2 : setDst p a port = pkW p (p.fl.src.toNat / 65536) (p.fl.src.toNat % 65536) (a / 65536) (a % 65536) p.fl.sp.toNat port := by
    unfold setDst pkW
    rw [sp16 a, show ((p.fl.src.toNat / 65536 * 65536 + p.fl.src.toNat % 65536 : Nat) : Int) = p.fl.src by rw [sp16]; exact Int.toNat_of_nonneg hs.1, show ((p.fl.sp.toNat : Nat) : Int) = p.fl.sp by omega]
  rw [e2, build_w p _ _ _ _ _ _ (by omega) (by omega) (by omega) (by omega), e]
  obtain ⟨s1, h1⟩ : ∃ x, p.fl.src.toNat / 65536 = x := ⟨_, rfl⟩
  obtain ⟨s2, h2⟩ : ∃ x, p.fl.src.toNat % 65536 = x := ⟨_, rfl⟩
  obtain ⟨d1, h3⟩ : ∃ x, p.fl.dst.toNat / 65536 = x := ⟨_, rfl⟩
  obtain ⟨d2, h4⟩ : ∃ x, p.fl.dst.toNat % 65536 = x := ⟨_, rfl⟩
  obtain ⟨sp, h5⟩ : ∃ x, p.fl.sp.toNat = x := ⟨_, rfl⟩
  obtain ⟨dp, h6⟩ : ∃ x, p.fl.dp.toNat = x := ⟨_, rfl⟩
  obtain ⟨x1, h7⟩ : ∃ x, a / 65536 = x := ⟨_, rfl⟩
  obtain ⟨x2, h8⟩ : ∃ x, a % 65536 = x := ⟨_, rfl⟩
  have b1 : s1 ≤ 65535 := by omega
  have b2' : s2 ≤ 65535 := by omega
  have b3 : d1 ≤ 65535 := by omega
  have b4 : d2 ≤ 65535 := by omega
  have b5 : sp ≤ 65535 := by omega
  have b6 : dp ≤ 65535 := by omega
  have b7 : x1 ≤ 65535 := by omega
  have b8 : x2 ≤ 65535 := by omega
  rw [h1, h2, h3, h4, h5, h6, h7, h8]
  have hpr : p.fl.proto.toNat ≤ 255 := by rcases hw.pr with h | h <;> rw [h] <;> decide
  obtain ⟨K, hK, hk⟩ := hS_eq p s1 s2 d1 d2 b1 b2' b3 b4 hw.n hw.id
  obtain ⟨L, hL, hl⟩ := oS_eq p (by rcases hw.pr with h | h <;> rw [h] <;> decide) hw.n
  have k0 := hk s1 s2 d1 d2 b1 b2' b3 b4
  have k1 := hk s1 s2 x1 d2 b1 b2' b7 b4
  have k2 := hk s1 s2 x1 x2 b1 b2' b7 b8
  have l0 := hl s1 s2 d1 d2 sp dp b1 b2' b3 b4 b5 b6
  have l1 := hl s1 s2 x1 d2 sp dp b1 b2' b7 b4 b5 b6
  have l2 := hl s1 s2 x1 x2 sp dp b1 b2' b7 b8 b5 b6
  have l3 := hl s1 s2 x1 x2 sp port b1 b2' b7 b8 b5 hp
  have cs0 : chS p s1 s2 d1 d2 ≤ 65535 := by unfold chS; omega
  have co0 : coS p s1 s2 d1 d2 sp dp ≤ 65535 := by unfold coS stO; split <;> omega
  have cs1 : chS p s1 s2 x1 x2 ≤ 65535 := by unfold chS; omega
  have co1 : coS p s1 s2 x1 x2 sp port ≤ 65535 := by unfold coS stO; split <;> omega
  refine ⟨?_, ?_⟩
  · rw [h7, h8]
    rw [rd_ch p _ _ _ _ _ _ _ _ cs0, rd_d1 p _ _ _ _ _ _ _ _ b3, rd_d2 p _ _ _ _ _ _ _ _ b4, rd_ch p _ _ _ _ _ _ _ _ cs1]
    unfold chS
    rw [upd_hd (hS p s1 s2 d1 d2) (hS p s1 s2 x1 d2) d1 x1 (by omega) (by omega) (by omega) b3, upd_hd (hS p s1 s2 x1 d2) (hS p s1 s2 x1 x2) d2 x2 (by omega) (by omega) (by omega) b4]
  · rw [h7, h8]
    rw [rd_co p _ _ _ _ _ _ _ _ co0, rd_d1 p _ _ _ _ _ _ _ _ b3, rd_d2 p _ _ _ _ _ _ _ _ b4, rd_dp p _ _ _ _ _ _ _ _ b6, rd_co p _ _ _ _ _ _ _ _ co1]
    by_cases hq : p.fl.proto = 17
    · have r0 : Rt (oS p s1 s2 d1 d2 sp dp) (coS p s1 s2 d1 d2 sp dp) := by
        have hf := fold16_le (oS p s1 s2 d1 d2 sp dp)
        unfold coS stO Rt
        by_cases hz : 65535 - fold16 (oS p s1 s2 d1 d2 sp dp) = 0 ∧ p.fl.proto = 17
        · rw [if_pos hz]; exact .inr ⟨rfl, by omega⟩
        · rw [if_neg hz]; exact .inl rfl
      have r1 := rt_step _ (oS p s1 s2 x1 d2 sp dp) d1 x1 _ r0 (by omega) (by omega) (by omega) b3
      have r2 := rt_step _ (oS p s1 s2 x1 x2 sp dp) d2 x2 _ r1 (by omega) (by omega) (by omega) b4
      have r3 := rt_step _ (oS p s1 s2 x1 x2 sp port) dp port _ r2 (by omega) (by omega) (by omega) b6
      have h := rt_st p _ _ r3 hq
      unfold coS
      unfold coS at h
      rw [← h]
      simp only [hq, and_true]
    · have st : ∀ o, stO p o = o := fun o => by unfold stO; rw [if_neg (fun h => hq h.2)]
      unfold coS
      rw [st, st, upd_hd (oS p s1 s2 d1 d2 sp dp) (oS p s1 s2 x1 d2 sp dp) d1 x1 (by omega) (by omega) (by omega) b3, upd_hd (oS p s1 s2 x1 d2 sp dp) (oS p s1 s2 x1 x2 sp dp) d2 x2 (by omega) (by omega) (by omega) b4, upd_hd (oS p s1 s2 x1 x2 sp dp) (oS p s1 s2 x1 x2 sp port) dp port (by omega) (by omega) (by omega) b6]
      rw [if_neg (fun h => hq h.2)]
end Go.Proofs.Ytbhdjalpkecbeaa
