/- The plain law of packets: their bytes, what they are read back as. -/
import Derived.Test.YtbhdjalpkecbeaaCodecPure
import Derived.Test.YtbhdjalpkecbeaaSumRowsPure
import Derived.Test.YtbhdjalpkecbeaaFls
namespace Go.Proofs.Ytbhdjalpkecbeaa
set_option linter.unusedVariables false
set_option linter.unusedSimpArgs false

theorem be2 (n : Nat) : be 2 n = [UInt8.ofNat (n / 256), UInt8.ofNat n] := by simp [be]
theorem be4 (n : Nat) : be 4 n = [UInt8.ofNat (n / 16777216), UInt8.ofNat (n / 65536), UInt8.ofNat (n / 256), UInt8.ofNat n] := by simp [be]
theorem be4_two (n : Nat) (h : n < 4294967296) : be 4 n = be 2 (n / 65536) ++ be 2 (n % 65536) := by
  rw [be4, be2, be2]
  simp only [List.cons_append, List.nil_append, List.cons.injEq, and_true]
  refine ⟨?_, trivial, ?_, ?_⟩ <;> (apply UInt8.toNat_inj.1; simp only [UInt8.toNat_ofNat']; omega)
/-- A packet, laid open. -/
structure Pk where
  tos : Int
  id : Int
  ttl : Int
  fl : Fl
  seq : Int
  ack : Int
  flags : Int
  win : Int
  data : List UInt8
def udp (p : Pk) : Bool := decide (p.fl.proto = 17)
/-- Is a packet in form? -/
def GoodP (p : Pk) : Prop := GoodF p.fl ∧ (0 ≤ p.tos ∧ p.tos ≤ 255) ∧ (0 ≤ p.id ∧ p.id ≤ 65535) ∧ (1 ≤ p.ttl ∧ p.ttl ≤ 255) ∧ (0 ≤ p.flags ∧ p.flags ≤ 255) ∧ (0 ≤ p.win ∧ p.win ≤ 65535) ∧
  (p.fl.proto = 17 → p.seq = 0 ∧ p.ack = 0 ∧ p.flags = 0 ∧ p.win = 0) ∧ p.data.length ≤ (if p.fl.proto = 17 then 1472 else 1460)
/-- The numbers of 32 bits. -/
def U32s (p : Pk) : Prop := (0 ≤ p.fl.src ∧ p.fl.src ≤ 4294967295) ∧ (0 ≤ p.fl.dst ∧ p.fl.dst ≤ 4294967295) ∧ (0 ≤ p.seq ∧ p.seq ≤ 4294967295) ∧ (0 ≤ p.ack ∧ p.ack ≤ 4294967295)
/-- The bytes behind the first 20, with this sum. -/
def segU (p : Pk) (c : Nat) : List UInt8 := be 2 p.fl.sp.toNat ++ be 2 p.fl.dp.toNat ++ be 2 (8 + p.data.length) ++ be 2 c ++ p.data
def segT (p : Pk) (c : Nat) : List UInt8 := be 2 p.fl.sp.toNat ++ be 2 p.fl.dp.toNat ++ be 4 p.seq.toNat ++ be 4 p.ack.toNat ++ [80, UInt8.ofNat p.flags.toNat] ++ be 2 p.win.toNat ++ be 2 c ++ be 2 0 ++ p.data
def seg (p : Pk) (c : Nat) : List UInt8 := if p.fl.proto = 17 then segU p c else segT p c
/-- What a sum takes ahead. -/
def ahead (f : Fl) (n : Nat) : List UInt8 := be 4 f.src.toNat ++ be 4 f.dst.toNat ++ [0, UInt8.ofNat f.proto.toNat] ++ be 2 n
/-- A segment's own sum. -/
def own0 (p : Pk) : Nat := cks (ahead p.fl (seg p 0).length ++ seg p 0)
def ownSum (p : Pk) : Nat := if own0 p = 0 ∧ p.fl.proto = 17 then 65535 else own0 p
def segS (p : Pk) : List UInt8 := seg p (ownSum p)
/-- The first 20 bytes, with this sum. -/
def front (p : Pk) (n c : Nat) : List UInt8 := [69, UInt8.ofNat p.tos.toNat] ++ be 2 (20 + n) ++ be 2 p.id.toNat ++ be 2 16384 ++ [UInt8.ofNat p.ttl.toNat, UInt8.ofNat p.fl.proto.toNat] ++ be 2 c ++ be 4 p.fl.src.toNat ++ be 4 p.fl.dst.toNat
def frontS (p : Pk) (n : Nat) : List UInt8 := front p n (cks (front p n 0))
def build (p : Pk) : List UInt8 := frontS p (segS p).length ++ segS p
theorem seg_len (p : Pk) (c : Nat) : (seg p c).length = (if p.fl.proto = 17 then 8 else 20) + p.data.length := by
  unfold seg segU segT
  split <;> simp [be_len] <;> omega
theorem front_len (p : Pk) (n c : Nat) : (front p n c).length = 20 := by unfold front; simp [be_len]
theorem build_len (p : Pk) : (build p).length = 20 + ((if p.fl.proto = 17 then 8 else 20) + p.data.length) := by
  unfold build frontS segS; rw [List.length_append, front_len, seg_len]
theorem cks_le (l : List UInt8) : cks l ≤ 65535 := by unfold cks; omega
theorem own_le (p : Pk) : ownSum p ≤ 65535 := by unfold ownSum; split; exact Nat.le_refl _; exact cks_le _

/-! ### reading -/
def b1 (b : List UInt8) (i : Nat) : Nat := (b.getD i 0).toNat
def b2 (b : List UInt8) (i : Nat) : Nat := 256 * b1 b i + b1 b (i + 1)
def b4 (b : List UInt8) (i : Nat) : Nat := b2 b i * 65536 + b2 b (i + 2)
/-- The packet that bytes may be the bytes of. -/
def opn (b : List UInt8) : Pk := if b1 b 9 = 6 then
    { tos := b1 b 1, id := b2 b 4, ttl := b1 b 8, fl := { proto := b1 b 9, src := b4 b 12, sp := b2 b 20, dst := b4 b 16, dp := b2 b 22 }, seq := b4 b 24, ack := b4 b 28, flags := b1 b 33, win := b2 b 34, data := b.drop 40 }
  else { tos := b1 b 1, id := b2 b 4, ttl := b1 b 8, fl := { proto := b1 b 9, src := b4 b 12, sp := b2 b 20, dst := b4 b 16, dp := b2 b 22 }, seq := 0, ack := 0, flags := 0, win := 0, data := b.drop 28 }
/-- Bytes are a packet's. -/
def IsPk (b : List UInt8) (p : Pk) : Prop := GoodP p ∧ U32s p ∧ build p = b
theorem of8 (n : Nat) (h : n < 256) : (UInt8.ofNat n).toNat = n := by rw [UInt8.toNat_ofNat']; omega
theorem hl16 (n : Nat) (h : n < 65536) : 256 * (UInt8.ofNat (n / 256)).toNat + (UInt8.ofNat n).toNat = n := by simp only [UInt8.toNat_ofNat']; omega
theorem hl32 (n : Nat) (h : n < 4294967296) : (256 * (UInt8.ofNat (n / 16777216)).toNat + (UInt8.ofNat (n / 65536)).toNat) * 65536 + (256 * (UInt8.ofNat (n / 256)).toNat + (UInt8.ofNat n).toNat) = n := by simp only [UInt8.toNat_ofNat']; omega
theorem front_cons (p : Pk) (n c : Nat) : front p n c = [69, UInt8.ofNat p.tos.toNat, UInt8.ofNat ((20 + n) / 256), UInt8.ofNat (20 + n), UInt8.ofNat (p.id.toNat / 256), UInt8.ofNat p.id.toNat, 64, 0, UInt8.ofNat p.ttl.toNat, UInt8.ofNat p.fl.proto.toNat, UInt8.ofNat (c / 256), UInt8.ofNat c,
    UInt8.ofNat (p.fl.src.toNat / 16777216), UInt8.ofNat (p.fl.src.toNat / 65536), UInt8.ofNat (p.fl.src.toNat / 256), UInt8.ofNat p.fl.src.toNat, UInt8.ofNat (p.fl.dst.toNat / 16777216), UInt8.ofNat (p.fl.dst.toNat / 65536), UInt8.ofNat (p.fl.dst.toNat / 256), UInt8.ofNat p.fl.dst.toNat] := by
  unfold front; simp only [be2, be4]; rfl
theorem opn_build (p : Pk) (hg : GoodP p) (hu : U32s p) : opn (build p) = p := by
  obtain ⟨⟨hp, hsp, hdp⟩, ht, hid, httl, hfl, hw, hz, hd⟩ := hg
  obtain ⟨hs, hdd, hsq, hak⟩ := hu
  have e : build p = front p (segS p).length (cks (front p (segS p).length 0)) ++ seg p (ownSum p) := rfl
  generalize cks (front p (segS p).length 0) = c at e
  generalize (segS p).length = n at e
  generalize ownSum p = o at e
  rw [e, front_cons]
  obtain ⟨tos, id, ttl, ⟨proto, src, sp, dst, dp⟩, sq, ak, flags, win, data⟩ := p
  simp only at *
  have q1 := of8 tos.toNat (by omega)
  have q2 := hl16 id.toNat (by omega)
  have q3 := of8 ttl.toNat (by omega)
  have q4 := hl32 src.toNat (by omega)
  have q5 := hl32 dst.toNat (by omega)
  have q6 := hl16 sp.toNat (by omega)
  have q7 := hl16 dp.toNat (by omega)
  have q8 := hl32 sq.toNat (by omega)
  have q9 := hl32 ak.toNat (by omega)
  have q10 := of8 flags.toNat (by omega)
  have q11 := hl16 win.toNat (by omega)
  have r1 := Int.toNat_of_nonneg ht.1
  have r2 := Int.toNat_of_nonneg hid.1
  have r3 := Int.toNat_of_nonneg (show 0 ≤ ttl by omega)
  have r4 := Int.toNat_of_nonneg hs.1
  have r5 := Int.toNat_of_nonneg hdd.1
  have r6 := Int.toNat_of_nonneg hsp.1
  have r7 := Int.toNat_of_nonneg hdp.1
  have r8 := Int.toNat_of_nonneg hsq.1
  have r9 := Int.toNat_of_nonneg hak.1
  have r10 := Int.toNat_of_nonneg hfl.1
  have r11 := Int.toNat_of_nonneg hw.1
  rcases hp with rfl | rfl
  · unfold opn seg segT
    simp only [be2, be4, b1, b2, b4, List.cons_append, List.nil_append, List.append_assoc, List.getD_cons_zero, List.getD_cons_succ, List.drop_succ_cons, List.drop_zero]
    rw [if_pos (by decide), if_neg (by decide)]
    simp only [be2, be4, b1, b2, b4, List.cons_append, List.nil_append, List.append_assoc, List.getD_cons_zero, List.getD_cons_succ, List.drop_succ_cons, List.drop_zero, q1, q2, q3, q4, q5, q6, q7, q8, q9, q10, q11]
    have r0 : (((UInt8.ofNat (Int.toNat 6)).toNat : Nat) : Int) = 6 := by decide
    simp only [r0, r1, r2, r3, r4, r5, r6, r7, r8, r9, r10, r11]
  · obtain ⟨rfl, rfl, rfl, rfl⟩ := hz rfl
    unfold opn seg segU
    simp only [be2, be4, b1, b2, b4, List.cons_append, List.nil_append, List.append_assoc, List.getD_cons_zero, List.getD_cons_succ, List.drop_succ_cons, List.drop_zero]
    rw [if_neg (by decide)]
    simp only [if_true, be2, be4, b1, b2, b4, List.cons_append, List.nil_append, List.append_assoc, List.getD_cons_zero, List.getD_cons_succ, List.drop_succ_cons, List.drop_zero, q1, q2, q3, q4, q5, q6, q7]
    have r0 : (((UInt8.ofNat (Int.toNat 17)).toNat : Nat) : Int) = 17 := by decide
    simp only [r0, r1, r2, r3, r4, r5, r6, r7]
theorem isPk_opn {b : List UInt8} {p : Pk} (h : IsPk b p) : p = opn b := by rw [← h.2.2, opn_build p h.1 h.2.1]
theorem isPk_any {b : List UInt8} {p : Pk} (h : IsPk b p) : IsPk b (opn b) := by rw [← isPk_opn h]; exact h
theorem isPk_inj {b : List UInt8} {p q : Pk} (h : IsPk b p) (h' : IsPk b q) : p = q := (isPk_opn h).trans (isPk_opn h').symm
/-- What a packet's bytes begin with. -/
theorem isPk_shape {b : List UInt8} {p : Pk} (h : IsPk b p) : 28 ≤ b.length ∧ b.length ≤ 1500 ∧ (b1 b 9 = 17 ∨ (b1 b 9 = 6 ∧ 40 ≤ b.length)) ∧ b2 b 2 = b.length := by
  obtain ⟨hg, hu, rfl⟩ := h
  have hl := build_len p
  have h1 := hg.1.1
  have h2 := hg.2.2.2.2.2.2.2
  have e : build p = front p (segS p).length (cks (front p (segS p).length 0)) ++ segS p := rfl
  have hsl : (segS p).length = (if p.fl.proto = 17 then 8 else 20) + p.data.length := seg_len _ _
  have e9 : b1 (build p) 9 = (UInt8.ofNat p.fl.proto.toNat).toNat := by rw [e, front_cons]; rfl
  have e2 : b2 (build p) 2 = 256 * (UInt8.ofNat ((20 + (segS p).length) / 256)).toNat + (UInt8.ofNat (20 + (segS p).length)).toNat := by rw [e, front_cons]; rfl
  rcases h1 with h1 | h1
  · rw [h1] at hl h2 hsl e9
    simp only [if_neg (show ¬ (6 : Int) = 17 by decide)] at hl h2 hsl
    rw [hl16 _ (by omega)] at e2
    refine ⟨by omega, by omega, .inr ⟨by rw [e9]; decide, by omega⟩, by omega⟩
  · rw [h1] at hl h2 hsl e9
    simp only [if_true] at hl h2 hsl
    rw [hl16 _ (by omega)] at e2
    refine ⟨by omega, by omega, .inl (by rw [e9]; decide), by omega⟩
/-- What the readers find in bytes. -/
theorem opn_u32 (b : List UInt8) : U32s (opn b) := by
  have h1 : ∀ i, b1 b i ≤ 255 := fun i => by unfold b1; have := (b.getD i 0).toNat_lt; omega
  have h2 : ∀ i, b2 b i ≤ 65535 := fun i => by have := h1 i; have := h1 (i + 1); unfold b2; omega
  have h4 : ∀ i, b4 b i ≤ 4294967295 := fun i => by have := h2 i; have := h2 (i + 2); unfold b4; omega
  have a := h4 12
  have b' := h4 16
  have c := h4 24
  have d := h4 28
  unfold opn U32s
  split <;> simp only <;> omega
end Go.Proofs.Ytbhdjalpkecbeaa
