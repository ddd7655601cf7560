/- The plain law of rewriting: a word changed, and the sums that bear it, is what is built of the changed packet (RFC 1624). -/
import Derived.Test.YtbhdjalpkecbeaaPktSlip
namespace Go.Proofs.Ytbhdjalpkecbeaa
set_option linter.unusedVariables false
set_option linter.unusedSimpArgs false

theorem wsum_be2 (x : Nat) (r : List UInt8) (h : x ≤ 65535) : wsum true (be 2 x ++ r) = x + wsum true r := by
  rw [be2]
  have := hl16 x (by omega)
  simp only [List.cons_append, List.nil_append, wsum]
  omega
theorem wsum_2 (a b : UInt8) (r : List UInt8) : wsum true ([a, b] ++ r) = (256 * a.toNat + b.toNat) + wsum true r := by
  simp only [List.cons_append, List.nil_append, wsum]
  omega
/-- The first 20 bytes, by words. -/
def hdrW (p : Pk) (n s1 s2 d1 d2 sp dp ch : Nat) : List UInt8 := [69, UInt8.ofNat p.tos.toNat] ++ (be 2 (20 + n) ++ (be 2 p.id.toNat ++ (be 2 16384 ++ ([UInt8.ofNat p.ttl.toNat, UInt8.ofNat p.fl.proto.toNat] ++ (be 2 ch ++ (be 2 s1 ++ (be 2 s2 ++ (be 2 d1 ++ be 2 d2))))))))
def restU (p : Pk) (co : Nat) : List UInt8 := be 2 (8 + p.data.length) ++ (be 2 co ++ p.data)
def restT (p : Pk) (co : Nat) : List UInt8 := be 4 p.seq.toNat ++ (be 4 p.ack.toNat ++ ([80, UInt8.ofNat p.flags.toNat] ++ (be 2 p.win.toNat ++ (be 2 co ++ (be 2 0 ++ p.data)))))
/-- A segment's bytes, by words. -/
def sgW (p : Pk) (sp dp co : Nat) : List UInt8 := be 2 sp ++ (be 2 dp ++ (if p.fl.proto = 17 then restU p co else restT p co))
def nW (p : Pk) : Nat := (if p.fl.proto = 17 then 8 else 20) + p.data.length
def aheadW (p : Pk) (s1 s2 d1 d2 : Nat) : List UInt8 := be 2 s1 ++ (be 2 s2 ++ (be 2 d1 ++ (be 2 d2 ++ ([0, UInt8.ofNat p.fl.proto.toNat] ++ be 2 (nW p)))))
/-- The packet with these words. -/
def pkW (p : Pk) (s1 s2 d1 d2 sp dp : Nat) : Pk := { p with fl := { p.fl with src := ((s1 * 65536 + s2 : Nat) : Int), sp := (sp : Int), dst := ((d1 * 65536 + d2 : Nat) : Int), dp := (dp : Int) } }
def hS (p : Pk) (s1 s2 d1 d2 : Nat) : Nat := wsum true (hdrW p (nW p) s1 s2 d1 d2 0 0 0)
def oS (p : Pk) (s1 s2 d1 d2 sp dp : Nat) : Nat := wsum true (aheadW p s1 s2 d1 d2 ++ sgW p sp dp 0)
def stO (p : Pk) (o : Nat) : Nat := if o = 0 ∧ p.fl.proto = 17 then 65535 else o
def chS (p : Pk) (s1 s2 d1 d2 : Nat) : Nat := 65535 - fold16 (hS p s1 s2 d1 d2)
def coS (p : Pk) (s1 s2 d1 d2 sp dp : Nat) : Nat := stO p (65535 - fold16 (oS p s1 s2 d1 d2 sp dp))
def bW (p : Pk) (s1 s2 d1 d2 sp dp ch co : Nat) : List UInt8 := hdrW p (nW p) s1 s2 d1 d2 sp dp ch ++ sgW p sp dp co
theorem be4_w (x y : Nat) (hx : x ≤ 65535) (hy : y ≤ 65535) : be 4 (x * 65536 + y) = be 2 x ++ be 2 y := by
  rw [be4_two _ (by omega), show (x * 65536 + y) / 65536 = x by omega, show (x * 65536 + y) % 65536 = y by omega]
theorem front_w (p : Pk) (s1 s2 d1 d2 sp dp n ch : Nat) (h1 : s1 ≤ 65535) (h2 : s2 ≤ 65535) (h3 : d1 ≤ 65535) (h4 : d2 ≤ 65535) : front (pkW p s1 s2 d1 d2 sp dp) n ch = hdrW p n s1 s2 d1 d2 sp dp ch := by
  unfold front hdrW pkW
  simp only [Int.toNat_natCast, be4_w s1 s2 h1 h2, be4_w d1 d2 h3 h4, List.append_assoc]
theorem seg_w (p : Pk) (s1 s2 d1 d2 sp dp co : Nat) : seg (pkW p s1 s2 d1 d2 sp dp) co = sgW p sp dp co := by
  unfold seg sgW segU segT restU restT pkW
  simp only [Int.toNat_natCast, List.append_assoc]
  split <;> rfl
theorem ahead_w (p : Pk) (s1 s2 d1 d2 sp dp : Nat) (h1 : s1 ≤ 65535) (h2 : s2 ≤ 65535) (h3 : d1 ≤ 65535) (h4 : d2 ≤ 65535) : ahead (pkW p s1 s2 d1 d2 sp dp).fl (nW p) = aheadW p s1 s2 d1 d2 := by
  unfold ahead aheadW pkW
  simp only [Int.toNat_natCast, be4_w s1 s2 h1 h2, be4_w d1 d2 h3 h4, List.append_assoc]
theorem nW_seg (p : Pk) (s1 s2 d1 d2 sp dp c : Nat) : (seg (pkW p s1 s2 d1 d2 sp dp) c).length = nW p := by rw [seg_len]; rfl
theorem hdrW_z (p : Pk) (n s1 s2 d1 d2 a b a' b' ch : Nat) : hdrW p n s1 s2 d1 d2 a b ch = hdrW p n s1 s2 d1 d2 a' b' ch := rfl
/-- What is built, by words. -/
theorem build_w (p : Pk) (s1 s2 d1 d2 sp dp : Nat) (h1 : s1 ≤ 65535) (h2 : s2 ≤ 65535) (h3 : d1 ≤ 65535) (h4 : d2 ≤ 65535) : build (pkW p s1 s2 d1 d2 sp dp) = bW p s1 s2 d1 d2 sp dp (chS p s1 s2 d1 d2) (coS p s1 s2 d1 d2 sp dp) := by
  have e : build (pkW p s1 s2 d1 d2 sp dp) = front (pkW p s1 s2 d1 d2 sp dp) (segS (pkW p s1 s2 d1 d2 sp dp)).length (cks (front (pkW p s1 s2 d1 d2 sp dp) (segS (pkW p s1 s2 d1 d2 sp dp)).length 0)) ++ segS (pkW p s1 s2 d1 d2 sp dp) := rfl
  have hn : (segS (pkW p s1 s2 d1 d2 sp dp)).length = nW p := nW_seg p s1 s2 d1 d2 sp dp _
  rw [e, hn, front_w p s1 s2 d1 d2 sp dp _ _ h1 h2 h3 h4, front_w p s1 s2 d1 d2 sp dp _ _ h1 h2 h3 h4]
  have ho : ownSum (pkW p s1 s2 d1 d2 sp dp) = coS p s1 s2 d1 d2 sp dp := by
    unfold ownSum coS stO own0 oS
    rw [nW_seg, ahead_w p s1 s2 d1 d2 sp dp h1 h2 h3 h4, seg_w]
    rfl
  unfold segS
  rw [ho, seg_w]
  rfl
theorem sp16 (x : Nat) : x / 65536 * 65536 + x % 65536 = x := by omega
/-- A packet's own words. -/
theorem pkW_own (p : Pk) (hg : GoodP p) (hu : U32s p) : pkW p (p.fl.src.toNat / 65536) (p.fl.src.toNat % 65536) (p.fl.dst.toNat / 65536) (p.fl.dst.toNat % 65536) p.fl.sp.toNat p.fl.dp.toNat = p := by
  obtain ⟨tos, id, ttl, ⟨proto, src, sp, dst, dp⟩, sq, ak, flags, win, data⟩ := p
  obtain ⟨⟨-, hsp, hdp⟩, -⟩ := hg
  obtain ⟨hs, hd, -⟩ := hu
  simp only at hsp hdp hs hd
  unfold pkW
  simp only
  have e1 : ((src.toNat / 65536 * 65536 + src.toNat % 65536 : Nat) : Int) = src := by rw [sp16]; exact Int.toNat_of_nonneg hs.1
  have e2 : ((dst.toNat / 65536 * 65536 + dst.toNat % 65536 : Nat) : Int) = dst := by rw [sp16]; exact Int.toNat_of_nonneg hd.1
  have e3 : ((sp.toNat : Nat) : Int) = sp := by omega
  have e4 : ((dp.toNat : Nat) : Int) = dp := by omega
  rw [e1, e2, e3, e4]
/-! ### sums -/
theorem fold_upd (S S' m x : Nat) (h0 : 0 < S) (h1 : 0 < S') (h : S' + m = S + x) (hm : m ≤ 65535) : fold16 (fold16 S + (65535 - m) + x) = fold16 S' := by
  unfold fold16
  rw [if_neg (show ¬ S = 0 by omega), if_neg (show ¬ S' = 0 by omega), if_neg (show ¬ ((S - 1) % 65535 + 1 + (65535 - m) + x = 0) by omega)]
  omega
theorem upd_hd (S S' m x : Nat) (h0 : 0 < S) (h1 : 0 < S') (h : S' + m = S + x) (hm : m ≤ 65535) : upd1 (65535 - fold16 S) (m, x) = 65535 - fold16 S' := by
  have hf := fold16_le S
  unfold upd1
  simp only
  rw [show 65535 - (65535 - fold16 S) = fold16 S by omega, fold_upd S S' m x h0 h1 h hm]
theorem upd_own (p : Pk) (S S' m x : Nat) (h0 : 0 < S) (h1 : 0 < S') (h : S' + m = S + x) (hm : m ≤ 65535) (hx : x ≤ 65535) :
    (if upd1 (stO p (65535 - fold16 S)) (m, x) = 0 ∧ p.fl.proto = 17 then 65535 else upd1 (stO p (65535 - fold16 S)) (m, x)) = stO p (65535 - fold16 S') := by
  have hf := fold16_le S
  have hf' := fold16_le S'
  have hu := upd_hd S S' m x h0 h1 h hm
  by_cases hz : 65535 - fold16 S = 0 ∧ p.fl.proto = 17
  · have e : stO p (65535 - fold16 S) = 65535 := by unfold stO; rw [if_pos hz]
    rw [e]
    have e2 : upd1 65535 (m, x) = 65535 - fold16 (65535 - m + x) := by unfold upd1; simp only; rw [show 65535 - 65535 + (65535 - m) + x = 65535 - m + x by omega]
    rw [e2]
    have hfs : fold16 S = 65535 := by omega
    by_cases hzz : 65535 - m + x = 0
    · have hm2 : m = 65535 := by omega
      have hx2 : x = 0 := by omega
      have e3 : fold16 S' = 65535 := by
        have h3 := fold16_mod S
        have h4 : S % 65535 = 0 := by omega
        exact fold16_full S' h1 (by omega)
      have r : stO p (65535 - 65535) = 65535 := by unfold stO; rw [if_pos ⟨by decide, hz.2⟩]
      have f0 : fold16 0 = 0 := rfl
      rw [hzz, e3, r, f0, if_neg (by omega)]
    · have e3 : fold16 (65535 - m + x) = fold16 S' := by
        have h3 := fold16_mod S
        unfold fold16
        rw [if_neg hzz, if_neg (show ¬ S' = 0 by omega)]
        omega
      rw [e3]
      rfl
  · have e : stO p (65535 - fold16 S) = 65535 - fold16 S := by unfold stO; rw [if_neg hz]
    rw [e, hu]
    rfl
theorem hS_eq (p : Pk) (s1 s2 d1 d2 : Nat) (h1 : s1 ≤ 65535) (h2 : s2 ≤ 65535) (h3 : d1 ≤ 65535) (h4 : d2 ≤ 65535) (hn : nW p ≤ 2000) (hid : p.id.toNat ≤ 65535) :
    ∃ K, 0 < K ∧ ∀ s1 s2 d1 d2 : Nat, s1 ≤ 65535 → s2 ≤ 65535 → d1 ≤ 65535 → d2 ≤ 65535 → hS p s1 s2 d1 d2 = K + s1 + s2 + d1 + d2 := by
  refine ⟨(256 * (69 : UInt8).toNat + (UInt8.ofNat p.tos.toNat).toNat) + ((20 + nW p) + (p.id.toNat + (16384 + ((256 * (UInt8.ofNat p.ttl.toNat).toNat + (UInt8.ofNat p.fl.proto.toNat).toNat))))), by omega, ?_⟩
  intro s1 s2 d1 d2 h1 h2 h3 h4
  unfold hS hdrW
  have hd : wsum true (be 2 d2) = d2 := by have h := wsum_be2 d2 [] h4; rw [List.append_nil] at h; rw [h]; rfl
  rw [wsum_2, wsum_be2 _ _ (by omega), wsum_be2 _ _ hid, wsum_be2 _ _ (by omega), wsum_2, wsum_be2 _ _ (by omega), wsum_be2 _ _ h1, wsum_be2 _ _ h2, wsum_be2 _ _ h3, hd]
  omega
theorem oS_eq (p : Pk) (hpr : 0 < (UInt8.ofNat p.fl.proto.toNat).toNat) (hn : nW p ≤ 2000) :
    ∃ K, 0 < K ∧ ∀ s1 s2 d1 d2 sp dp : Nat, s1 ≤ 65535 → s2 ≤ 65535 → d1 ≤ 65535 → d2 ≤ 65535 → sp ≤ 65535 → dp ≤ 65535 → oS p s1 s2 d1 d2 sp dp = K + s1 + s2 + d1 + d2 + sp + dp := by
  refine ⟨(256 * (0 : UInt8).toNat + (UInt8.ofNat p.fl.proto.toNat).toNat) + (nW p + wsum true (if p.fl.proto = 17 then restU p 0 else restT p 0)), by omega, ?_⟩
  intro s1 s2 d1 d2 sp dp h1 h2 h3 h4 h5 h6
  unfold oS aheadW sgW
  simp only [List.append_assoc]
  rw [wsum_be2 _ _ h1, wsum_be2 _ _ h2, wsum_be2 _ _ h3, wsum_be2 _ _ h4, wsum_2, wsum_be2 _ _ (by omega), wsum_be2 _ _ h5, wsum_be2 _ _ h6]
  omega
/-! ### words read and set -/
def sw (l : List UInt8) (i n : Nat) : List UInt8 := (l.set i (UInt8.ofNat (n / 256))).set (i + 1) (UInt8.ofNat n)
def ownAt (p : Pk) : Nat := if p.fl.proto = 17 then 26 else 36
theorem bW_cons (p : Pk) (s1 s2 d1 d2 sp dp ch co : Nat) : bW p s1 s2 d1 d2 sp dp ch co = 69 :: UInt8.ofNat p.tos.toNat :: UInt8.ofNat ((20 + nW p) / 256) :: UInt8.ofNat (20 + nW p) :: UInt8.ofNat (p.id.toNat / 256) :: UInt8.ofNat p.id.toNat :: UInt8.ofNat (16384 / 256) :: UInt8.ofNat 16384 :: UInt8.ofNat p.ttl.toNat :: UInt8.ofNat p.fl.proto.toNat ::
    UInt8.ofNat (ch / 256) :: UInt8.ofNat ch :: UInt8.ofNat (s1 / 256) :: UInt8.ofNat s1 :: UInt8.ofNat (s2 / 256) :: UInt8.ofNat s2 :: UInt8.ofNat (d1 / 256) :: UInt8.ofNat d1 :: UInt8.ofNat (d2 / 256) :: UInt8.ofNat d2 :: UInt8.ofNat (sp / 256) :: UInt8.ofNat sp :: UInt8.ofNat (dp / 256) :: UInt8.ofNat dp :: (if p.fl.proto = 17 then restU p co else restT p co) := by
  unfold bW hdrW sgW
  simp only [be2, List.cons_append, List.nil_append, List.append_assoc]
theorem restU_cons (p : Pk) (co : Nat) : restU p co = UInt8.ofNat ((8 + p.data.length) / 256) :: UInt8.ofNat (8 + p.data.length) :: UInt8.ofNat (co / 256) :: UInt8.ofNat co :: p.data := by
  unfold restU
  simp only [be2, List.cons_append, List.nil_append]
theorem restT_cons (p : Pk) (co : Nat) : restT p co = UInt8.ofNat (p.seq.toNat / 16777216) :: UInt8.ofNat (p.seq.toNat / 65536) :: UInt8.ofNat (p.seq.toNat / 256) :: UInt8.ofNat p.seq.toNat :: UInt8.ofNat (p.ack.toNat / 16777216) :: UInt8.ofNat (p.ack.toNat / 65536) :: UInt8.ofNat (p.ack.toNat / 256) :: UInt8.ofNat p.ack.toNat :: 80 :: UInt8.ofNat p.flags.toNat :: UInt8.ofNat (p.win.toNat / 256) :: UInt8.ofNat p.win.toNat :: UInt8.ofNat (co / 256) :: UInt8.ofNat co :: UInt8.ofNat (0 / 256) :: UInt8.ofNat 0 :: p.data := by
  unfold restT
  simp only [be2, be4, List.cons_append, List.nil_append]
theorem rd_ch (p : Pk) (s1 s2 d1 d2 sp dp ch co : Nat) (h : ch ≤ 65535) : b2 (bW p s1 s2 d1 d2 sp dp ch co) 10 = ch := by
  rw [bW_cons]
  exact hl16 ch (by omega)
theorem st_ch (p : Pk) (s1 s2 d1 d2 sp dp ch co x : Nat) : sw (bW p s1 s2 d1 d2 sp dp ch co) 10 x = bW p s1 s2 d1 d2 sp dp x co := by
  rw [bW_cons, bW_cons]
  rfl
theorem rd_s1 (p : Pk) (s1 s2 d1 d2 sp dp ch co : Nat) (h : s1 ≤ 65535) : b2 (bW p s1 s2 d1 d2 sp dp ch co) 12 = s1 := by
  rw [bW_cons]
  exact hl16 s1 (by omega)
theorem st_s1 (p : Pk) (s1 s2 d1 d2 sp dp ch co x : Nat) : sw (bW p s1 s2 d1 d2 sp dp ch co) 12 x = bW p x s2 d1 d2 sp dp ch co := by
  rw [bW_cons, bW_cons]
  rfl
theorem rd_s2 (p : Pk) (s1 s2 d1 d2 sp dp ch co : Nat) (h : s2 ≤ 65535) : b2 (bW p s1 s2 d1 d2 sp dp ch co) 14 = s2 := by
  rw [bW_cons]
  exact hl16 s2 (by omega)
theorem st_s2 (p : Pk) (s1 s2 d1 d2 sp dp ch co x : Nat) : sw (bW p s1 s2 d1 d2 sp dp ch co) 14 x = bW p s1 x d1 d2 sp dp ch co := by
  rw [bW_cons, bW_cons]
  rfl
theorem rd_d1 (p : Pk) (s1 s2 d1 d2 sp dp ch co : Nat) (h : d1 ≤ 65535) : b2 (bW p s1 s2 d1 d2 sp dp ch co) 16 = d1 := by
  rw [bW_cons]
  exact hl16 d1 (by omega)
theorem st_d1 (p : Pk) (s1 s2 d1 d2 sp dp ch co x : Nat) : sw (bW p s1 s2 d1 d2 sp dp ch co) 16 x = bW p s1 s2 x d2 sp dp ch co := by
  rw [bW_cons, bW_cons]
  rfl
theorem rd_d2 (p : Pk) (s1 s2 d1 d2 sp dp ch co : Nat) (h : d2 ≤ 65535) : b2 (bW p s1 s2 d1 d2 sp dp ch co) 18 = d2 := by
  rw [bW_cons]
  exact hl16 d2 (by omega)
theorem st_d2 (p : Pk) (s1 s2 d1 d2 sp dp ch co x : Nat) : sw (bW p s1 s2 d1 d2 sp dp ch co) 18 x = bW p s1 s2 d1 x sp dp ch co := by
  rw [bW_cons, bW_cons]
  rfl
theorem rd_sp (p : Pk) (s1 s2 d1 d2 sp dp ch co : Nat) (h : sp ≤ 65535) : b2 (bW p s1 s2 d1 d2 sp dp ch co) 20 = sp := by
  rw [bW_cons]
  exact hl16 sp (by omega)
theorem st_sp (p : Pk) (s1 s2 d1 d2 sp dp ch co x : Nat) : sw (bW p s1 s2 d1 d2 sp dp ch co) 20 x = bW p s1 s2 d1 d2 x dp ch co := by
  rw [bW_cons, bW_cons]
  rfl
theorem rd_dp (p : Pk) (s1 s2 d1 d2 sp dp ch co : Nat) (h : dp ≤ 65535) : b2 (bW p s1 s2 d1 d2 sp dp ch co) 22 = dp := by
  rw [bW_cons]
  exact hl16 dp (by omega)
theorem st_dp (p : Pk) (s1 s2 d1 d2 sp dp ch co x : Nat) : sw (bW p s1 s2 d1 d2 sp dp ch co) 22 x = bW p s1 s2 d1 d2 sp x ch co := by
  rw [bW_cons, bW_cons]
  rfl
theorem rd_co (p : Pk) (s1 s2 d1 d2 sp dp ch co : Nat) (h : co ≤ 65535) : b2 (bW p s1 s2 d1 d2 sp dp ch co) (ownAt p) = co := by
  rw [bW_cons]
  unfold ownAt
  by_cases hp : p.fl.proto = 17
  · rw [if_pos hp, if_pos hp, restU_cons]
    exact hl16 co (by omega)
  · rw [if_neg hp, if_neg hp, restT_cons]
    exact hl16 co (by omega)
theorem st_co (p : Pk) (s1 s2 d1 d2 sp dp ch co x : Nat) : sw (bW p s1 s2 d1 d2 sp dp ch co) (ownAt p) x = bW p s1 s2 d1 d2 sp dp ch x := by
  rw [bW_cons, bW_cons]
  unfold ownAt
  by_cases hp : p.fl.proto = 17
  · rw [if_pos hp, if_pos hp, if_pos hp, restU_cons, restU_cons]
    rfl
  · rw [if_neg hp, if_neg hp, if_neg hp, restT_cons, restT_cons]
    rfl
/-- One sum changed by a word that changes from m to x. -/
def chg1 (udp : Prop) [Decidable udp] (m x : Nat) (l : List UInt8) (s : Nat) : List UInt8 := sw l s (if upd1 (b2 l s) (m, x) = 0 ∧ s ≠ 10 ∧ udp then 65535 else upd1 (b2 l s) (m, x))
def chg (udp : Prop) [Decidable udp] (l : List UInt8) (at_ x : Nat) (sums : List Nat) : List UInt8 := sums.foldl (chg1 udp (b2 l at_) x) (sw l at_ x)
/-- What is known of a packet whose words change. -/
structure Wok (p : Pk) : Prop where
  pr : p.fl.proto = 6 ∨ p.fl.proto = 17
  n : nW p ≤ 2000
  id : p.id.toNat ≤ 65535
theorem wok_of {p : Pk} (hg : GoodP p) : Wok p := by
  refine ⟨hg.1.1, ?_, ?_⟩
  · have h := hg.2.2.2.2.2.2.2
    unfold nW
    split at h <;> rename_i hp <;> simp only [hp, if_true, if_false] <;> omega
  · have := hg.2.2.1
    omega
theorem chg_own (p : Pk) (hw : Wok p) (m x S S' : Nat) (s1 s2 d1 d2 sp dp ch : Nat) (h0 : 0 < S) (h1 : 0 < S') (h : S' + m = S + x) (hm : m ≤ 65535) (hx : x ≤ 65535) :
    chg1 (p.fl.proto = 17) m x (bW p s1 s2 d1 d2 sp dp ch (stO p (65535 - fold16 S))) (ownAt p) = bW p s1 s2 d1 d2 sp dp ch (stO p (65535 - fold16 S')) := by
  have hle : stO p (65535 - fold16 S) ≤ 65535 := by unfold stO; split <;> omega
  have hne : ownAt p ≠ 10 := by unfold ownAt; split <;> omega
  have hu := upd_own p S S' m x h0 h1 h hm hx
  unfold chg1
  rw [rd_co p _ _ _ _ _ _ _ _ hle, st_co]
  congr 1
  rw [← hu]
  simp only [ne_eq, hne, not_false_eq_true, true_and]
theorem chg_hd (p : Pk) (m x S S' : Nat) (s1 s2 d1 d2 sp dp co : Nat) (h0 : 0 < S) (h1 : 0 < S') (h : S' + m = S + x) (hm : m ≤ 65535) :
    chg1 (p.fl.proto = 17) m x (bW p s1 s2 d1 d2 sp dp (65535 - fold16 S) co) 10 = bW p s1 s2 d1 d2 sp dp (65535 - fold16 S') co := by
  unfold chg1
  rw [rd_ch p _ _ _ _ _ _ _ _ (by omega), st_ch, upd_hd S S' m x h0 h1 h hm]
  rw [if_neg (by intro hh; exact hh.2.1 rfl)]
/-- The word at 12 changed. -/
theorem chg_s1 (p : Pk) (hw : Wok p) (s1 s2 d1 d2 sp dp x : Nat) (h_s1 : s1 ≤ 65535) (h_s2 : s2 ≤ 65535) (h_d1 : d1 ≤ 65535) (h_d2 : d2 ≤ 65535) (h_sp : sp ≤ 65535) (h_dp : dp ≤ 65535) (hx : x ≤ 65535) :
    chg (p.fl.proto = 17) (bW p s1 s2 d1 d2 sp dp (chS p s1 s2 d1 d2) (coS p s1 s2 d1 d2 sp dp)) 12 x [10, ownAt p] = bW p x s2 d1 d2 sp dp (chS p x s2 d1 d2) (coS p x s2 d1 d2 sp dp) := by
  obtain ⟨K, hK, hk⟩ := hS_eq p s1 s2 d1 d2 h_s1 h_s2 h_d1 h_d2 hw.n hw.id
  obtain ⟨L, hL, hl⟩ := oS_eq p (by rcases hw.pr with h | h <;> rw [h] <;> decide) hw.n
  have e1 := hk s1 s2 d1 d2 h_s1 h_s2 h_d1 h_d2
  have e2 := hk x s2 d1 d2 hx h_s2 h_d1 h_d2
  have e3 := hl s1 s2 d1 d2 sp dp h_s1 h_s2 h_d1 h_d2 h_sp h_dp
  have e4 := hl x s2 d1 d2 sp dp hx h_s2 h_d1 h_d2 h_sp h_dp
  unfold chg
  rw [rd_s1 p _ _ _ _ _ _ _ _ h_s1, st_s1]
  simp only [List.foldl_cons, List.foldl_nil]
  unfold chS coS
  rw [chg_hd p s1 x (hS p s1 s2 d1 d2) (hS p x s2 d1 d2) _ _ _ _ _ _ _ (by omega) (by omega) (by omega) h_s1]
  exact chg_own p hw s1 x _ _ _ _ _ _ _ _ _ (by omega) (by omega) (by omega) h_s1 hx
/-- The word at 14 changed. -/
theorem chg_s2 (p : Pk) (hw : Wok p) (s1 s2 d1 d2 sp dp x : Nat) (h_s1 : s1 ≤ 65535) (h_s2 : s2 ≤ 65535) (h_d1 : d1 ≤ 65535) (h_d2 : d2 ≤ 65535) (h_sp : sp ≤ 65535) (h_dp : dp ≤ 65535) (hx : x ≤ 65535) :
    chg (p.fl.proto = 17) (bW p s1 s2 d1 d2 sp dp (chS p s1 s2 d1 d2) (coS p s1 s2 d1 d2 sp dp)) 14 x [10, ownAt p] = bW p s1 x d1 d2 sp dp (chS p s1 x d1 d2) (coS p s1 x d1 d2 sp dp) := by
  obtain ⟨K, hK, hk⟩ := hS_eq p s1 s2 d1 d2 h_s1 h_s2 h_d1 h_d2 hw.n hw.id
  obtain ⟨L, hL, hl⟩ := oS_eq p (by rcases hw.pr with h | h <;> rw [h] <;> decide) hw.n
  have e1 := hk s1 s2 d1 d2 h_s1 h_s2 h_d1 h_d2
  have e2 := hk s1 x d1 d2 h_s1 hx h_d1 h_d2
  have e3 := hl s1 s2 d1 d2 sp dp h_s1 h_s2 h_d1 h_d2 h_sp h_dp
  have e4 := hl s1 x d1 d2 sp dp h_s1 hx h_d1 h_d2 h_sp h_dp
  unfold chg
  rw [rd_s2 p _ _ _ _ _ _ _ _ h_s2, st_s2]
  simp only [List.foldl_cons, List.foldl_nil]
  unfold chS coS
  rw [chg_hd p s2 x (hS p s1 s2 d1 d2) (hS p s1 x d1 d2) _ _ _ _ _ _ _ (by omega) (by omega) (by omega) h_s2]
  exact chg_own p hw s2 x _ _ _ _ _ _ _ _ _ (by omega) (by omega) (by omega) h_s2 hx
/-- The word at 16 changed. -/
theorem chg_d1 (p : Pk) (hw : Wok p) (s1 s2 d1 d2 sp dp x : Nat) (h_s1 : s1 ≤ 65535) (h_s2 : s2 ≤ 65535) (h_d1 : d1 ≤ 65535) (h_d2 : d2 ≤ 65535) (h_sp : sp ≤ 65535) (h_dp : dp ≤ 65535) (hx : x ≤ 65535) :
    chg (p.fl.proto = 17) (bW p s1 s2 d1 d2 sp dp (chS p s1 s2 d1 d2) (coS p s1 s2 d1 d2 sp dp)) 16 x [10, ownAt p] = bW p s1 s2 x d2 sp dp (chS p s1 s2 x d2) (coS p s1 s2 x d2 sp dp) := by
  obtain ⟨K, hK, hk⟩ := hS_eq p s1 s2 d1 d2 h_s1 h_s2 h_d1 h_d2 hw.n hw.id
  obtain ⟨L, hL, hl⟩ := oS_eq p (by rcases hw.pr with h | h <;> rw [h] <;> decide) hw.n
  have e1 := hk s1 s2 d1 d2 h_s1 h_s2 h_d1 h_d2
  have e2 := hk s1 s2 x d2 h_s1 h_s2 hx h_d2
  have e3 := hl s1 s2 d1 d2 sp dp h_s1 h_s2 h_d1 h_d2 h_sp h_dp
  have e4 := hl s1 s2 x d2 sp dp h_s1 h_s2 hx h_d2 h_sp h_dp
  unfold chg
  rw [rd_d1 p _ _ _ _ _ _ _ _ h_d1, st_d1]
  simp only [List.foldl_cons, List.foldl_nil]
  unfold chS coS
  rw [chg_hd p d1 x (hS p s1 s2 d1 d2) (hS p s1 s2 x d2) _ _ _ _ _ _ _ (by omega) (by omega) (by omega) h_d1]
  exact chg_own p hw d1 x _ _ _ _ _ _ _ _ _ (by omega) (by omega) (by omega) h_d1 hx
/-- The word at 18 changed. -/
theorem chg_d2 (p : Pk) (hw : Wok p) (s1 s2 d1 d2 sp dp x : Nat) (h_s1 : s1 ≤ 65535) (h_s2 : s2 ≤ 65535) (h_d1 : d1 ≤ 65535) (h_d2 : d2 ≤ 65535) (h_sp : sp ≤ 65535) (h_dp : dp ≤ 65535) (hx : x ≤ 65535) :
    chg (p.fl.proto = 17) (bW p s1 s2 d1 d2 sp dp (chS p s1 s2 d1 d2) (coS p s1 s2 d1 d2 sp dp)) 18 x [10, ownAt p] = bW p s1 s2 d1 x sp dp (chS p s1 s2 d1 x) (coS p s1 s2 d1 x sp dp) := by
  obtain ⟨K, hK, hk⟩ := hS_eq p s1 s2 d1 d2 h_s1 h_s2 h_d1 h_d2 hw.n hw.id
  obtain ⟨L, hL, hl⟩ := oS_eq p (by rcases hw.pr with h | h <;> rw [h] <;> decide) hw.n
  have e1 := hk s1 s2 d1 d2 h_s1 h_s2 h_d1 h_d2
  have e2 := hk s1 s2 d1 x h_s1 h_s2 h_d1 hx
  have e3 := hl s1 s2 d1 d2 sp dp h_s1 h_s2 h_d1 h_d2 h_sp h_dp
  have e4 := hl s1 s2 d1 x sp dp h_s1 h_s2 h_d1 hx h_sp h_dp
  unfold chg
  rw [rd_d2 p _ _ _ _ _ _ _ _ h_d2, st_d2]
  simp only [List.foldl_cons, List.foldl_nil]
  unfold chS coS
  rw [chg_hd p d2 x (hS p s1 s2 d1 d2) (hS p s1 s2 d1 x) _ _ _ _ _ _ _ (by omega) (by omega) (by omega) h_d2]
  exact chg_own p hw d2 x _ _ _ _ _ _ _ _ _ (by omega) (by omega) (by omega) h_d2 hx
/-- The word at 20 changed. -/
theorem chg_sp (p : Pk) (hw : Wok p) (s1 s2 d1 d2 sp dp x : Nat) (h_s1 : s1 ≤ 65535) (h_s2 : s2 ≤ 65535) (h_d1 : d1 ≤ 65535) (h_d2 : d2 ≤ 65535) (h_sp : sp ≤ 65535) (h_dp : dp ≤ 65535) (hx : x ≤ 65535) :
    chg (p.fl.proto = 17) (bW p s1 s2 d1 d2 sp dp (chS p s1 s2 d1 d2) (coS p s1 s2 d1 d2 sp dp)) 20 x [ownAt p] = bW p s1 s2 d1 d2 x dp (chS p s1 s2 d1 d2) (coS p s1 s2 d1 d2 x dp) := by
  obtain ⟨K, hK, hk⟩ := hS_eq p s1 s2 d1 d2 h_s1 h_s2 h_d1 h_d2 hw.n hw.id
  obtain ⟨L, hL, hl⟩ := oS_eq p (by rcases hw.pr with h | h <;> rw [h] <;> decide) hw.n
  have e1 := hk s1 s2 d1 d2 h_s1 h_s2 h_d1 h_d2
  have e2 := hk s1 s2 d1 d2 h_s1 h_s2 h_d1 h_d2
  have e3 := hl s1 s2 d1 d2 sp dp h_s1 h_s2 h_d1 h_d2 h_sp h_dp
  have e4 := hl s1 s2 d1 d2 x dp h_s1 h_s2 h_d1 h_d2 hx h_dp
  unfold chg
  rw [rd_sp p _ _ _ _ _ _ _ _ h_sp, st_sp]
  simp only [List.foldl_cons, List.foldl_nil]
  unfold chS coS
  exact chg_own p hw sp x _ _ _ _ _ _ _ _ _ (by omega) (by omega) (by omega) h_sp hx
/-- The word at 22 changed. -/
theorem chg_dp (p : Pk) (hw : Wok p) (s1 s2 d1 d2 sp dp x : Nat) (h_s1 : s1 ≤ 65535) (h_s2 : s2 ≤ 65535) (h_d1 : d1 ≤ 65535) (h_d2 : d2 ≤ 65535) (h_sp : sp ≤ 65535) (h_dp : dp ≤ 65535) (hx : x ≤ 65535) :
    chg (p.fl.proto = 17) (bW p s1 s2 d1 d2 sp dp (chS p s1 s2 d1 d2) (coS p s1 s2 d1 d2 sp dp)) 22 x [ownAt p] = bW p s1 s2 d1 d2 sp x (chS p s1 s2 d1 d2) (coS p s1 s2 d1 d2 sp x) := by
  obtain ⟨K, hK, hk⟩ := hS_eq p s1 s2 d1 d2 h_s1 h_s2 h_d1 h_d2 hw.n hw.id
  obtain ⟨L, hL, hl⟩ := oS_eq p (by rcases hw.pr with h | h <;> rw [h] <;> decide) hw.n
  have e1 := hk s1 s2 d1 d2 h_s1 h_s2 h_d1 h_d2
  have e2 := hk s1 s2 d1 d2 h_s1 h_s2 h_d1 h_d2
  have e3 := hl s1 s2 d1 d2 sp dp h_s1 h_s2 h_d1 h_d2 h_sp h_dp
  have e4 := hl s1 s2 d1 d2 sp x h_s1 h_s2 h_d1 h_d2 h_sp hx
  unfold chg
  rw [rd_dp p _ _ _ _ _ _ _ _ h_dp, st_dp]
  simp only [List.foldl_cons, List.foldl_nil]
  unfold chS coS
  exact chg_own p hw dp x _ _ _ _ _ _ _ _ _ (by omega) (by omega) (by omega) h_dp hx
/-- A side changed: what is built of the packet with it. -/
def sideB (p : Pk) (l : List UInt8) (a at_ port portAt : Nat) : List UInt8 :=
  chg (p.fl.proto = 17) (chg (p.fl.proto = 17) (chg (p.fl.proto = 17) l at_ (a / 65536) [10, ownAt p]) (at_ + 2) (a % 65536) [10, ownAt p]) portAt port [ownAt p]
def setSrc (p : Pk) (a port : Int) : Pk := { p with fl := { p.fl with src := a, sp := port } }
def setDst (p : Pk) (a port : Int) : Pk := { p with fl := { p.fl with dst := a, dp := port } }
theorem side_src (p : Pk) (hg : GoodP p) (hu : U32s p) (a port : Nat) (ha : a ≤ 4294967295) (hp : port ≤ 65535) : sideB p (build p) a 12 port 20 = build (setSrc p a port) := by
  have hw := wok_of hg
  obtain ⟨⟨-, hsp, hdp⟩, -⟩ := id hg
  obtain ⟨hs, hd, -⟩ := id hu
  have e := build_w p (p.fl.src.toNat / 65536) (p.fl.src.toNat % 65536) (p.fl.dst.toNat / 65536) (p.fl.dst.toNat % 65536) p.fl.sp.toNat p.fl.dp.toNat (by omega) (by omega) (by omega) (by omega)
  rw [pkW_own p hg hu] at e
  have e2 : setSrc p a port = pkW p (a / 65536) (a % 65536) (p.fl.dst.toNat / 65536) (p.fl.dst.toNat % 65536) port p.fl.dp.toNat := by
    unfold setSrc pkW
    rw [sp16 a, show ((p.fl.dst.toNat / 65536 * 65536 + p.fl.dst.toNat % 65536 : Nat) : Int) = p.fl.dst by rw [sp16]; exact Int.toNat_of_nonneg hd.1, show ((p.fl.dp.toNat : Nat) : Int) = p.fl.dp by omega]
  rw [e2, build_w p _ _ _ _ _ _ (by omega) (by omega) (by omega) (by omega), e]
  unfold sideB
  rw [chg_s1 p hw _ _ _ _ _ _ (a / 65536) (by omega) (by omega) (by omega) (by omega) (by omega) (by omega) (by omega)]
  rw [chg_s2 p hw _ _ _ _ _ _ (a % 65536) (by omega) (by omega) (by omega) (by omega) (by omega) (by omega) (by omega)]
  rw [chg_sp p hw _ _ _ _ _ _ port (by omega) (by omega) (by omega) (by omega) (by omega) (by omega) (by omega)]
theorem side_dst (p : Pk) (hg : GoodP p) (hu : U32s p) (a port : Nat) (ha : a ≤ 4294967295) (hp : port ≤ 65535) : sideB p (build p) a 16 port 22 = build (setDst p a port) := by
  have hw := wok_of hg
  obtain ⟨⟨-, hsp, hdp⟩, -⟩ := id hg
  obtain ⟨hs, hd, -⟩ := id hu
  have e := build_w p (p.fl.src.toNat / 65536) (p.fl.src.toNat % 65536) (p.fl.dst.toNat / 65536) (p.fl.dst.toNat % 65536) p.fl.sp.toNat p.fl.dp.toNat (by omega) (by omega) (by omega) (by omega)
  rw [pkW_own p hg hu] at e
  have e2 : setDst p a port = pkW p (p.fl.src.toNat / 65536) (p.fl.src.toNat % 65536) (a / 65536) (a % 65536) p.fl.sp.toNat port := by
    unfold setDst pkW
    rw [sp16 a, show ((p.fl.src.toNat / 65536 * 65536 + p.fl.src.toNat % 65536 : Nat) : Int) = p.fl.src by rw [sp16]; exact Int.toNat_of_nonneg hs.1, show ((p.fl.sp.toNat : Nat) : Int) = p.fl.sp by omega]
  rw [e2, build_w p _ _ _ _ _ _ (by omega) (by omega) (by omega) (by omega), e]
  unfold sideB
  rw [chg_d1 p hw _ _ _ _ _ _ (a / 65536) (by omega) (by omega) (by omega) (by omega) (by omega) (by omega) (by omega)]
  rw [chg_d2 p hw _ _ _ _ _ _ (a % 65536) (by omega) (by omega) (by omega) (by omega) (by omega) (by omega) (by omega)]
  rw [chg_dp p hw _ _ _ _ _ _ port (by omega) (by omega) (by omega) (by omega) (by omega) (by omega) (by omega)]
theorem setSrc_good {p : Pk} (hg : GoodP p) (hu : U32s p) (a port : Nat) (ha : a ≤ 4294967295) (hp : port ≤ 65535) : GoodP (setSrc p a port) ∧ U32s (setSrc p a port) := by
  obtain ⟨⟨h1, h2, h3⟩, hr⟩ := hg
  obtain ⟨u1, u2, u3⟩ := hu
  exact ⟨⟨⟨h1, ⟨by show (0 : Int) ≤ (port : Int); omega, by show (port : Int) ≤ 65535; omega⟩, h3⟩, hr⟩, ⟨⟨by show (0 : Int) ≤ (a : Int); omega, by show (a : Int) ≤ 4294967295; omega⟩, u2, u3⟩⟩
theorem setDst_good {p : Pk} (hg : GoodP p) (hu : U32s p) (a port : Nat) (ha : a ≤ 4294967295) (hp : port ≤ 65535) : GoodP (setDst p a port) ∧ U32s (setDst p a port) := by
  obtain ⟨⟨h1, h2, h3⟩, hr⟩ := hg
  obtain ⟨u1, u2, u3⟩ := hu
  exact ⟨⟨⟨h1, h2, ⟨by show (0 : Int) ≤ (port : Int); omega, by show (port : Int) ≤ 65535; omega⟩⟩, hr⟩, ⟨u1, ⟨by show (0 : Int) ≤ (a : Int); omega, by show (a : Int) ≤ 4294967295; omega⟩, u3⟩⟩
end Go.Proofs.Ytbhdjalpkecbeaa
