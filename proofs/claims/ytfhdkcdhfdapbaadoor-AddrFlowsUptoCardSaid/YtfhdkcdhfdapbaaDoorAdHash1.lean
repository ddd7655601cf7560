/- The walk of the closure of addr.Hash. -/
import Derived.Test.YtfhdkcdhfdapbaaDoorAdLess
import Derived.Test.YtfhdkcdhfdapbaaDoorAdText
namespace Go.Proofs.YtfhdkcdhfdapbaaDoor
set_option linter.unusedVariables false
set_option linter.unusedSimpArgs false
open Go.RowKit Go.Sort

theorem grown_cell {w w' : World} {g : Nat} (h : w.grownBy w' (some g)) {p : Addr} {u : Value} (hc : w.cell? p = some u) (hn : p.block ≠ g) : w'.cell? p = some u := by
  have hb := h.block p.block (World.block_lt_of_cell? w p hc) (fun e => hn (by injection e))
  rw [← hc]
  simp only [World.cell?, hb]
/-- One byte mixed into a number. -/
def mix (x : Int) (b : UInt8) : Int := IntKind.u64.wrap (bits .xor .u64 x (b.toNat : Int) * 1099511628211)
def mixL (x : Int) (l : List UInt8) : Int := l.foldl mix x
theorem mixL_append (x : Int) (l m : List UInt8) : mixL x (l ++ m) = mixL (mixL x l) m := List.foldl_append
set_option maxHeartbeats 1600000 in
theorem add_any (xs : List UInt8) (A : Option Addr) (n c g : Nat) (h : Int) (w : World) (hn : xs.length = n) (hA : RB w A xs) (hl : n ≤ 1000) (hg : Blk w g 58 [.int .u64 h]) (hne : ∀ ad, A = some ad → ad.block ≠ g) :
    Calls Tryd.prog 47 #[.slice A n c, .pointer (some ⟨g, 0, none⟩)] w fun e w' => (∃ v, e = .returned v) ∧ Blk w' g 58 [.int .u64 (mixL h xs)] ∧ w.grownBy w' (some g) := by
  have HN := Lib.hid hn
  clear hn
  go_enter Tryd.func47, Tryd.ntmps47
  go_wp2_with fail
  go_loopw [7] (fun i wr => ∃ (k : Nat) (x : Int), k ≤ n ∧ i = .int .i64 (k : Int) ∧ Hid (x = mixL h (xs.take k)) ∧ Blk wr g 58 [.int .u64 x] ∧ w.grownBy wr (some g)) (fun i _ => n - (intOf i).toNat)
  case atStart => exact ⟨0, h, Nat.zero_le _, rfl, rfl, hg, World.grownBy.refl w _⟩
  case round =>
    obtain ⟨k, x, hk, rfl, HX, hb, hgr⟩ := hrel
    have x0 := hb.cell 0
    have x1 := hb.frozen 0
    simp only [List.getElem?_cons_zero] at x0
    by_cases hlt : k < n
    · have hkl : k < xs.length := by rw [HN.out]; exact hlt
      obtain ⟨ad, rfl, hc⟩ := hA k (.int .u8 (xs[k].toNat : Int)) (by rw [List.getElem?_map, List.getElem?_eq_getElem hkl]; rfl)
      have hc1 := grown_cell hgr hc (by rw [add_block]; exact hne _ rfl)
      have hlt8 := xs[k].toNat_lt
      have HY : Hid (IntKind.u64.wrap (bits .xor .u64 x (xs[k].toNat : Int) * 1099511628211) = mixL h (xs.take (k + 1))) := by
        show _ = _
        rw [List.take_succ_eq_append_getElem hkl, mixL_append, ← HX.out]
        rfl
      generalize xs[k].toNat = b at *
      go_wp2_with fail
      go_roundw
      case rel => exact ⟨k + 1, _, by omega, by go_num, HY.out, hb.set_ 0 _, hgr.trans (grown_set wr g 0 _)⟩
      case measure => simp [intOf]; omega
    · go_wp2_with fail
      have HZ : Hid (x = mixL h xs) := by
        show _ = _
        rw [HX.out, List.take_of_length_le (by rw [HN.out]; omega)]
      refine bodyPost_end (results_none rfl _ _ _) rfl ?_
      exact ⟨⟨_, rfl⟩, by rw [← HZ.out]; exact hb, hgr⟩
/-- The final mixing. -/
def fin (m : Int) : Int := bits .xor .u64 (IntKind.u64.wrap (bits .xor .u64 m (m / 4294967296) * 11400714819323198485)) (IntKind.u64.wrap (bits .xor .u64 m (m / 4294967296) * 11400714819323198485) / 536870912)
def hashI (seed : Int) (l : List UInt8) : Int := fin (mixL (bits .xor .u64 seed 14695981039346656037) l)
/-- A whole number's lowest byte. -/
def u8i (z : Int) : UInt8 := UInt8.ofNat (z % 256).toNat
theorem bv_u8i (z : Int) : bv (u8i z) = .int .u8 (IntKind.u8.wrap z) := by
  unfold bv u8i
  have h : ((UInt8.ofNat (z % 256).toNat).toNat : Int) = z % 256 := by
    rw [UInt8.toNat_ofNat']
    omega
  rw [h]
  simp [IntKind.wrap, IntKind.bits, IntKind.signed]
theorem bv_u8n (n : Nat) (h : n < 256) : bv (u8i (n : Int)) = .int .u8 (n : Int) := by
  rw [bv_u8i]
  simp [IntKind.wrap, IntKind.bits, IntKind.signed]
  omega
/-- A flow's thirteen bytes. -/
def thirteen (p sp_ dp : Int) (SB DB : List UInt8) : List UInt8 := [u8i p] ++ SB ++ DB ++ [u8i (sp_ / 256), u8i sp_, u8i (dp / 256), u8i dp]
theorem bv_u8m (z : Int) : bv (u8i z) = .int .u8 (z % 256) := by
  rw [bv_u8i]
  simp [IntKind.wrap, IntKind.bits, IntKind.signed]
theorem rb_blk {w : World} {g : Nat} {t : TypeId} {cs : List Value} {l : List UInt8} (h : Blk w g t cs) (e : cs = l.map bv) : RB w (some ⟨g, 0, none⟩) l := fun j u hu => by
  rw [← e] at hu
  refine ⟨_, rfl, ?_⟩
  rw [add_lit0]
  have := h.cell j
  rw [this, hu]
theorem grown_blk {w w' : World} {g k : Nat} {t : TypeId} {cs : List Value} (h : w.grownBy w' (some g)) (hb : Blk w k t cs) (hne : k ≠ g) : Blk w' k t cs := (h.block k hb.lt (fun e => hne (by injection e))).trans hb
theorem grown_bel {a w w' : World} {B g : Nat} (hb : Below B a w) (h : w.grownBy w' (some g)) (hg : B ≤ g) (hs : B ≤ a.heap.size) : Below B a w' :=
  ⟨h.os.trans hb.os, h.tape.trans hb.tape, h.output.trans hb.output, Nat.le_trans hb.size h.size, fun k hk => (h.block k (by have := hb.size; omega) (fun e => by injection e with e; omega)).trans (hb.block k hk)⟩
end Go.Proofs.YtfhdkcdhfdapbaaDoor
