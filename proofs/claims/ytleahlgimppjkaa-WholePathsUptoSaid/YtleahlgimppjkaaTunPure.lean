/- The plain law of wrapped packets. -/
import Derived.Test.YtleahlgimppjkaaPktSlip
namespace Go.Proofs.Ytleahlgimppjkaa
set_option linter.unusedVariables false
set_option linter.unusedSimpArgs false

/-- The outer header, as a packet's first 20 bytes. -/
def oq (src dst : Int) : Pk := ⟨0, 0, 64, ⟨4, src, 0, dst, 0⟩, 0, 0, 0, 0, []⟩
def U32 (x : Int) : Prop := 0 ≤ x ∧ x ≤ 4294967295
def wrapB (src dst : Int) (inner : List UInt8) : List UInt8 := frontS (oq src dst) inner.length ++ inner
/-- Bytes that are wrapped. -/
def WrapOk (inner : List UInt8) : Prop := IsPk inner (opn inner) ∧ inner.length ≤ 1480
/-- Bytes are a wrapped packet's. -/
def IsW (b : List UInt8) (src dst : Int) (inner : List UInt8) : Prop := WrapOk inner ∧ U32 src ∧ U32 dst ∧ wrapB src dst inner = b
theorem frontS_len (p : Pk) (n : Nat) : (frontS p n).length = 20 := front_len _ _ _
theorem wrapB_len (src dst : Int) (inner : List UInt8) : (wrapB src dst inner).length = 20 + inner.length := by unfold wrapB; rw [List.length_append, frontS_len]
theorem wrapB_drop (src dst : Int) (inner : List UInt8) : (wrapB src dst inner).drop 20 = inner := by unfold wrapB; rw [List.drop_left' (frontS_len _ _)]
theorem wrapB_take (src dst : Int) (inner : List UInt8) : (wrapB src dst inner).take 20 = frontS (oq src dst) inner.length := by unfold wrapB; rw [List.take_left' (frontS_len _ _)]
theorem wrapB_bytes (src dst : Int) (inner : List UInt8) (hs : U32 src) (hd : U32 dst) (hl : inner.length ≤ 1480) :
    b1 (wrapB src dst inner) 9 = 4 ∧ b2 (wrapB src dst inner) 2 = 20 + inner.length ∧ (b4 (wrapB src dst inner) 12 : Int) = src ∧ (b4 (wrapB src dst inner) 16 : Int) = dst := by
  obtain ⟨hs1, hs2⟩ := hs
  obtain ⟨hd1, hd2⟩ := hd
  have e : wrapB src dst inner = front (oq src dst) inner.length (cks (front (oq src dst) inner.length 0)) ++ inner := rfl
  generalize cks (front (oq src dst) inner.length 0) = c at e
  generalize inner.length = n at *
  rw [e, front_cons]
  have q1 := hl16 (20 + n) (by omega)
  have q4 := hl32 src.toNat (by omega)
  have q5 := hl32 dst.toNat (by omega)
  have r1 := Int.toNat_of_nonneg hs1
  have r2 := Int.toNat_of_nonneg hd1
  unfold oq
  simp only [b1, b2, b4, List.cons_append, List.nil_append, List.getD_cons_zero, List.getD_cons_succ, q1, q4, q5]
  exact ⟨rfl, trivial, r1, r2⟩
theorem isW_shape {b : List UInt8} {src dst : Int} {inner : List UInt8} (h : IsW b src dst inner) : b.length = 20 + inner.length ∧ inner.length ≤ 1480 ∧ 28 ≤ inner.length ∧ inner = b.drop 20 ∧ b1 b 9 = 4 ∧ b2 b 2 = b.length ∧ src = (b4 b 12 : Int) ∧ dst = (b4 b 16 : Int) := by
  obtain ⟨⟨hp, hl⟩, hs, hd, rfl⟩ := h
  obtain ⟨h1, h2, h3, h4⟩ := wrapB_bytes src dst inner hs hd hl
  exact ⟨wrapB_len _ _ _, hl, (isPk_shape hp).1, (wrapB_drop _ _ _).symm, h1, by rw [h2, wrapB_len], h3.symm, h4.symm⟩
/-- Nothing is both a packet and a wrapped one. -/
theorem isW_notPk {b : List UInt8} {src dst : Int} {inner : List UInt8} (h : IsW b src dst inner) : ∀ q, ¬ IsPk b q := by
  intro q hq
  obtain ⟨-, -, -, -, h9, -⟩ := isW_shape h
  obtain ⟨-, -, h3, -⟩ := isPk_shape hq
  omega
/-- Is there anything in these bytes? -/
def IsWb (b : List UInt8) : Prop := IsW b (b4 b 12) (b4 b 16) (b.drop 20)
theorem isWb_of {b : List UInt8} {src dst : Int} {inner : List UInt8} (h : IsW b src dst inner) : IsWb b := by
  obtain ⟨-, -, -, h4, -, -, h7, h8⟩ := isW_shape h
  unfold IsWb
  rw [← h4, ← h7, ← h8]
  exact h
/-- One bit changed. -/
theorem wslip_none {b : List UInt8} {src dst : Int} {inner : List UInt8} (h : IsW b src dst inner) {i j : Nat} (hi : i < b.length) (hj : j < 8) {z : UInt8} (hz : z.toNat = b[i].toNat ^^^ 2 ^ j) : ¬ IsWb (b.set i z) := by
  intro hw
  obtain ⟨l1, l2, l3, l4, -⟩ := isW_shape h
  have hin := h.1.1
  by_cases h20 : i < 20
  · have s1 := hdr_ok (oq src dst) inner.length
    have s2 := hdr_ok (oq (b4 (b.set i z) 12) (b4 (b.set i z) 16)) ((b.set i z).drop 20).length
    rw [← wrapB_take src dst inner, h.2.2.2] at s1
    rw [← wrapB_take, hw.2.2.2, List.take_set] at s2
    exact flip_sum (b.take 20) i j (by rw [List.length_take]; omega) hj z (by rw [List.getElem_take]; exact hz) s1 s2
  · have h1 := hw.1.1
    rw [List.drop_set, if_neg h20, ← l4] at h1
    refine slip_none hin (show i - 20 < inner.length by omega) hj ?_ _ h1
    have : ∀ (l : List UInt8) (k : Nat) (hk : k < l.length) (hl : l = b.drop 20) (hke : k = i - 20), l[k] = b[i] := by
      intro l k hk hl hke
      subst hl hke
      rw [List.getElem_drop]
      exact getElem_congr_idx (by omega)
    rw [this inner (i - 20) (by omega) l4 rfl]
    exact hz
/-- A true beginning. -/
theorem wcut_none {b : List UInt8} {src dst : Int} {inner : List UInt8} (h : IsW b src dst inner) {k : Nat} (hk : k < b.length) : ¬ IsWb (b.take k) := by
  intro hw
  obtain ⟨l1, l2, l3, l4, -, l6, -⟩ := isW_shape h
  obtain ⟨m1, m2, m3, m4, -, m6, -⟩ := isW_shape hw
  rw [List.length_take] at m1 m6
  have e : b2 (b.take k) 2 = b2 b 2 := by
    unfold b2 b1
    simp only [List.getD, List.getElem?_take]
    rw [if_pos (by omega), if_pos (by omega)]
  omega
end Go.Proofs.Ytleahlgimppjkaa
