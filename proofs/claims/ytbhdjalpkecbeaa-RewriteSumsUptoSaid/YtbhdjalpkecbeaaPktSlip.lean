/- The plain law: a packet with one bit changed is none. -/
import Derived.Test.YtbhdjalpkecbeaaPktPure
namespace Go.Proofs.Ytbhdjalpkecbeaa
set_option linter.unusedVariables false
set_option linter.unusedSimpArgs false

theorem wsum_set (l : List UInt8) (i : Nat) (h : i < l.length) (z : UInt8) : ∃ k, (k = 256 ∨ k = 1) ∧ wsum true (l.set i z) + k * l[i].toNat = wsum true l + k * z.toNat := by
  have e1 : l = l.take i ++ l[i] :: l.drop (i + 1) := by simp
  have e2 : l.set i z = l.take i ++ z :: l.drop (i + 1) := by rw [List.set_eq_take_append_cons_drop, if_pos h]
  generalize l[i] = x at *
  generalize l.take i = a at *
  generalize l.drop (i + 1) = s at *
  rw [e2, e1, wsum_append, wsum_append]
  cases hh : after true a.length
  · exact ⟨1, .inr rfl, by simp only [wsum, hh, Bool.false_eq_true, if_false]; omega⟩
  · exact ⟨256, .inl rfl, by simp only [wsum, hh, if_true]; omega⟩
theorem flip8 : ∀ x : Nat, x < 256 → ∀ j : Nat, j < 8 → (x ^^^ 2 ^ j = x + 2 ^ j ∨ x = (x ^^^ 2 ^ j) + 2 ^ j) ∧ x ^^^ 2 ^ j < 256 := by decide +kernel
theorem two_pow8 : ∀ j : Nat, j < 8 → 0 < 2 ^ j ∧ 2 ^ j ≤ 128 := by decide
/-- One bit changed changes a sum. -/
theorem flip_sum (l : List UInt8) (i j : Nat) (h : i < l.length) (hj : j < 8) (z : UInt8) (hz : z.toNat = l[i].toNat ^^^ 2 ^ j) (h0 : wsum true l % 65535 = 0) : wsum true (l.set i z) % 65535 ≠ 0 := by
  obtain ⟨k, hk, e⟩ := wsum_set l i h z
  have h1 := flip8 l[i].toNat l[i].toNat_lt j hj
  have h2 := two_pow8 j hj
  rw [← hz] at h1
  generalize 2 ^ j = t at *
  rcases hk with rfl | rfl <;> omega
theorem sum_ok (n : Nat) : (n + (65535 - fold16 n)) % 65535 = 0 := by
  have h := fold16_mod n
  have h2 := fold16_le n
  omega
theorem wsum_mid (a z : List UInt8) (c : Nat) (ha : a.length % 2 = 0) (hc : c ≤ 65535) : wsum true (a ++ be 2 c ++ z) = wsum true (a ++ be 2 0 ++ z) + c := by
  have h := hl16 c (by omega)
  have h0 := hl16 0 (by omega)
  rw [be2, be2]
  simp only [List.append_assoc, List.cons_append, List.nil_append]
  rw [wsum_split _ _ _ _ ha, wsum_split _ _ _ _ ha, h, h0]
  omega
theorem hdr_ok (p : Pk) (n : Nat) : wsum true (frontS p n) % 65535 = 0 := by
  have hc := cks_le (front p n 0)
  have e : ∀ c, c ≤ 65535 → wsum true (front p n c) = wsum true (front p n 0) + c := by
    intro c hc
    have e : ∀ c, front p n c = ([69, UInt8.ofNat p.tos.toNat] ++ be 2 (20 + n) ++ be 2 p.id.toNat ++ be 2 16384 ++ [UInt8.ofNat p.ttl.toNat, UInt8.ofNat p.fl.proto.toNat]) ++ be 2 c ++ (be 4 p.fl.src.toNat ++ be 4 p.fl.dst.toNat) := by
      intro c; unfold front; simp only [List.append_assoc]
    rw [e c, e 0, wsum_mid _ _ c (by simp [be_len]) hc]
  show wsum true (front p n (cks (front p n 0))) % 65535 = 0
  rw [e _ hc]
  exact sum_ok _
theorem seg_ok (p : Pk) (m : Nat) (hm : m = (segS p).length) : wsum true (ahead p.fl m ++ segS p) % 65535 = 0 := by
  have e : ∀ c, c ≤ 65535 → wsum true (ahead p.fl m ++ seg p c) = wsum true (ahead p.fl m ++ seg p 0) + c := by
    intro c hc
    have hal : (ahead p.fl m).length % 2 = 0 := by unfold ahead; simp [be_len]
    by_cases hp : p.fl.proto = 17
    · have e : ∀ c, ahead p.fl m ++ seg p c = (ahead p.fl m ++ (be 2 p.fl.sp.toNat ++ be 2 p.fl.dp.toNat ++ be 2 (8 + p.data.length))) ++ be 2 c ++ p.data := by
        intro c; unfold seg segU; rw [if_pos hp]; simp only [List.append_assoc]
      rw [e c, e 0, wsum_mid _ _ c (by rw [List.length_append]; simp only [List.length_append, be_len]; omega) hc]
    · have e : ∀ c, ahead p.fl m ++ seg p c = (ahead p.fl m ++ (be 2 p.fl.sp.toNat ++ be 2 p.fl.dp.toNat ++ be 4 p.seq.toNat ++ be 4 p.ack.toNat ++ [80, UInt8.ofNat p.flags.toNat] ++ be 2 p.win.toNat)) ++ be 2 c ++ (be 2 0 ++ p.data) := by
        intro c; unfold seg segT; rw [if_neg hp]; simp only [List.append_assoc]
      rw [e c, e 0, wsum_mid _ _ c (by rw [List.length_append]; simp only [List.length_append, be_len, List.length_cons, List.length_nil]; omega) hc]
  have hl : (seg p 0).length = m := by rw [hm]; unfold segS; rw [seg_len, seg_len]
  have ho : own0 p = 65535 - fold16 (wsum true (ahead p.fl m ++ seg p 0)) := by unfold own0; rw [hl]; rfl
  have h1 := sum_ok (wsum true (ahead p.fl m ++ seg p 0))
  show wsum true (ahead p.fl m ++ seg p (ownSum p)) % 65535 = 0
  rw [e _ (own_le p)]
  unfold ownSum
  split
  · rename_i h
    rw [h.1] at ho
    omega
  · rw [ho]; exact h1
theorem b1_set (b : List UInt8) (i k : Nat) (z : UInt8) (h : k < i) : b1 (b.set i z) k = b1 b k := by
  unfold b1
  simp only [List.getD]
  rw [List.getElem?_set_ne (by omega)]
/-- A packet's bytes: the first 20, and those behind. -/
theorem isPk_parts {b : List UInt8} {p : Pk} (h : IsPk b p) : b.take 20 = frontS p (segS p).length ∧ b.drop 20 = segS p ∧ (segS p).length = b.length - 20 := by
  obtain ⟨-, -, rfl⟩ := h
  have hf : (frontS p (segS p).length).length = 20 := front_len _ _ _
  unfold build
  refine ⟨?_, ?_, ?_⟩
  · rw [List.take_left' hf]
  · rw [List.drop_left' hf]
  · rw [List.length_append, hf]; omega
theorem opn_fl (b : List UInt8) : (opn b).fl.proto = (b1 b 9 : Int) ∧ (opn b).fl.src = (b4 b 12 : Int) ∧ (opn b).fl.dst = (b4 b 16 : Int) := by
  unfold opn; split <;> exact ⟨rfl, rfl, rfl⟩
theorem slip_none {b : List UInt8} {p : Pk} (h : IsPk b p) {i j : Nat} (hi : i < b.length) (hj : j < 8) {z : UInt8} (hz : z.toNat = b[i].toNat ^^^ 2 ^ j) : ∀ q, ¬ IsPk (b.set i z) q := by
  intro q hq
  obtain ⟨h1, h2, h3⟩ := isPk_parts h
  obtain ⟨g1, g2, g3⟩ := isPk_parts hq
  have ep := isPk_opn h
  have eq := isPk_opn hq
  obtain ⟨l1, -⟩ := isPk_shape h
  by_cases h20 : i < 20
  · have s1 := hdr_ok p (segS p).length
    have s2 := hdr_ok q (segS q).length
    rw [← h1] at s1
    rw [← g1, List.take_set] at s2
    exact flip_sum (b.take 20) i j (by rw [List.length_take]; omega) hj z (by rw [List.getElem_take]; exact hz) s1 s2
  · have s1 := seg_ok p _ rfl
    have s2 := seg_ok q _ rfl
    obtain ⟨a1, a2, a3⟩ := opn_fl b
    obtain ⟨c1, c2, c3⟩ := opn_fl (b.set i z)
    rw [← ep] at a1 a2 a3
    rw [← eq] at c1 c2 c3
    unfold b4 b2 at a2 a3 c2 c3
    simp only [b1_set b i _ z (show 9 < i by omega), b1_set b i _ z (show 12 < i by omega), b1_set b i _ z (show 12 + 1 < i by omega), b1_set b i _ z (show 12 + 2 < i by omega), b1_set b i _ z (show 12 + 2 + 1 < i by omega), b1_set b i _ z (show 16 < i by omega), b1_set b i _ z (show 16 + 1 < i by omega), b1_set b i _ z (show 16 + 2 < i by omega), b1_set b i _ z (show 16 + 2 + 1 < i by omega)] at c1 c2 c3
    have ea : ahead q.fl (segS q).length = ahead p.fl (segS p).length := by
      unfold ahead
      rw [g3, h3, List.length_set, c1, c2, c3, a1, a2, a3]
    rw [← h2] at s1
    rw [ea, ← g2] at s2
    rw [h2] at s1
    have e2 : (b.set i z).drop 20 = (segS p).set (i - 20) z := by rw [← h2, List.drop_set, if_neg (by omega)]
    rw [e2] at s2
    have hal : (ahead p.fl (segS p).length).length = 12 := by unfold ahead; simp [be_len]
    have e3 : ahead p.fl (segS p).length ++ (segS p).set (i - 20) z = (ahead p.fl (segS p).length ++ segS p).set (i - 8) z := by
      rw [List.set_append_right _ _ (by omega), hal]
      congr 1
    rw [e3] at s2
    have hlt : i - 8 < (ahead p.fl (segS p).length ++ segS p).length := by rw [List.length_append, hal, h3]; omega
    refine flip_sum _ (i - 8) j hlt hj z ?_ s1 s2
    have e4 : (ahead p.fl (segS p).length ++ segS p)[i - 8] = b[i] := by
      rw [List.getElem_append_right (by omega)]
      have : ∀ (l : List UInt8) (k : Nat) (hk : k < l.length) (hl : l = b.drop 20) (hke : k = i - 20), l[k] = b[i] := by
        intro l k hk hl hke
        subst hl hke
        rw [List.getElem_drop]
        exact getElem_congr_idx (by omega)
      exact this _ _ _ h2.symm (by omega)
    rw [e4]
    exact hz
end Go.Proofs.Ytbhdjalpkecbeaa
