/- The fixed fact of layer 5. -/
import Derived.Test.YtjehllgipfanmaaUnwrap
import Derived.Test.YtjehllgipfanmaaRefBuild
namespace Go.Proofs.Ytjehllgipfanmaa
set_option linter.unusedVariables false
set_option linter.unusedSimpArgs false
open Go.RowKit

def exT : Pk := ⟨0, 0, 64, ⟨17, 1, 2, 3, 4⟩, 0, 0, 0, 0, []⟩
theorem exT_good : GoodP exT := by
  refine ⟨⟨.inr rfl, ?_, ?_⟩, ?_, ?_, ?_, ?_, ?_, fun _ => ⟨rfl, rfl, rfl, rfl⟩, ?_⟩ <;> simp [exT]
theorem exT_u32 : U32s exT := by simp [U32s, exT]
theorem isW_mk {b : List UInt8} {p : Pk} (h : IsPk b p) (hl : b.length ≤ 1480) {src dst : Int} (hs : U32 src) (hd : U32 dst) : IsW (wrapB src dst b) src dst b := ⟨⟨isPk_any h, hl⟩, hs, hd, rfl⟩
theorem pk_notW {b : List UInt8} {p : Pk} (h : IsPk b p) : ¬ IsWb b := fun hw => isW_notPk hw p h
set_option maxRecDepth 100000 in
set_option maxHeartbeats 3200000 in
theorem alive_any (w : World) : Calls Try.prog 8 #[] w fun e w' => e = .returned (.bool true) ∧ Below w.heap.size w w' := by
  have hl : (build exT).length = 28 := by rw [build_len]; rfl
  have hI : IsPk (build exT) exT := ⟨exT_good, exT_u32, rfl⟩
  have hD : PkD w none 0 exT := ⟨Nat.le_refl _, fun j u hu => by simp [exT] at hu⟩
  have hcall : Calls Try.prog 20 #[.agg #[.int .i64 0, .int .i64 0, .int .i64 64, .int .i64 17, .int .u32 1, .int .i64 2, .int .u32 3, .int .i64 4, .int .u32 0, .int .u32 0, .int .i64 0, .int .i64 0, .slice none 0 0]] w fun e w' => ∃ v, e = .returned (.tuple #[v, .int .i64 0]) ∧ w'.ownsRow w.heap.size 5 1 v (build exT).length ((build exT).map bv) ∧ Below w.heap.size w w' :=
    rbuild_good exT none 0 w hD exT_good exT_u32
  generalize build exT = xb at *
  have HI := Lib.hid hI
  have HL := Lib.hid hl
  clear hI hD
  go_enter Try.func8, Try.ntmps8
  go_wp2_with fail
  (with_reducible refine hcall.mono ?_)
  rintro e w1 ⟨v1, rfl, hO1, hb1⟩
  rw [hl] at hO1
  obtain ⟨A1, k1, rfl, hk1, hR1, -⟩ := own_form hO1
  replace hR1 : RB w1 A1 xb := hR1
  clear hO1 hcall hl
  go_wp2_with fail
  (with_reducible refine (wrap_good 167772192 167837697 xb exT A1 28 k1 w1 (by unfold U32; omega) (by unfold U32; omega) HL.out hR1 hk1 HI.out (by omega)).mono ?_)
  rintro e w2 ⟨v2, rfl, hO2, hb2⟩
  have HW : Hid (IsW (wrapB 167772192 167837697 xb) 167772192 167837697 xb) := isW_mk HI.out (by rw [HL.out]; omega) (by unfold U32; omega) (by unfold U32; omega)
  have hsh := isW_shape HW.out
  have H9 := Lib.hid hsh.2.2.2.2.1
  have HWL : Hid ((wrapB 167772192 167837697 xb).length = 48) := by show _ = _; rw [hsh.1, HL.out]
  have HWW : Hid (IsWb (wrapB 167772192 167837697 xb)) := isWb_of HW.out
  have hR1' := hR1.below hb2
  have hw2 := below_call hb1 hb2
  clear hsh HW hb2 hR1
  generalize wrapB 167772192 167837697 xb = wq at *
  replace hO2 : w2.ownsRow w1.heap.size 5 1 v2 48 (wq.map bv) := hO2
  obtain ⟨g, k2, rfl, -, -⟩ := own_headE hO2 (by omega)
  obtain ⟨A9, k9, e9, hk2, hR2, -⟩ := own_form hO2
  injection e9 with e9 e10 e11
  subst e9 e11
  replace hR2 : RB w2 (some ⟨g, 0, none⟩) wq := hR2
  have c9 := rb_b1 hR2 9 (by rw [HWL.out]; omega) (by omega)
  rw [H9.out, show ((4 : Nat) : Int) = 4 from rfl, show (0 + 9) = 9 from rfl] at c9
  replace c9 : w2.cell? ⟨g, 9, none⟩ = some (.int .u8 4) := c9
  clear hO2 hb1
  go_wp2_with fail
  (with_reducible refine (is_yes wq (some ⟨g, 0, none⟩) 48 k2 w2 HWL.out hR2 hk2 (by omega) HWW.out).mono ?_)
  rintro e w6 ⟨rfl, hb6⟩
  go_wp2_with fail
  (with_reducible refine (is_no xb A1 28 k1 w6 HL.out (hR1'.below hb6) hk1 (by omega) (pk_notW HI.out)).mono ?_)
  rintro e w7 ⟨rfl, hb7⟩
  have hw7 := below_call (below_call hw2 hb6) hb7
  go_wp2_with fail
  go_ret
  exact ⟨rfl, hw7⟩
theorem rbuild_any (p : Pk) (B : Option Addr) (d : Nat) (w : World) (hd : PkD w B d p) (hu : U32s p) :
    Calls Try.prog 20 #[pkv p B d] w fun e w' => ∃ v E, e = .returned (.tuple #[v, .int .i64 E]) ∧ Hid ((GoodP p ∧ E = 0 ∧ w'.ownsRow w.heap.size 5 1 v (build p).length ((build p).map bv)) ∨ (¬ GoodP p ∧ E = 9 ∧ v = .slice none 0 0)) ∧ Below w.heap.size w w' := by
  by_cases hg : GoodP p
  · refine (rbuild_good p B d w hd hg hu).mono ?_
    rintro e w' ⟨v, rfl, hO, hb⟩
    exact ⟨v, _, rfl, .inl ⟨hg, rfl, hO⟩, hb⟩
  · refine (rbuild_bad p B d w hg).mono ?_
    rintro e w' ⟨rfl, hb⟩
    exact ⟨_, _, rfl, .inr ⟨hg, rfl, rfl⟩, hb⟩
end Go.Proofs.Ytjehllgipfanmaa
