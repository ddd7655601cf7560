/- The walk of the document's Parse. -/
import Derived.Test.YtfhdkcdhfdapbaaDoorAdDec
namespace Go.Proofs.YtfhdkcdhfdapbaaDoor
set_option linter.unusedVariables false
set_option linter.unusedSimpArgs false
open Go.RowKit Go.Sort

theorem wrap_u64 (z : Int) : IntKind.u64.wrap z = z % 18446744073709551616 := by simp [IntKind.wrap, IntKind.bits, IntKind.signed]
structure Ps where
  a : Nat
  n : Nat
  p : Nat
  d : Nat
def isDg (c : UInt8) : Bool := decide (48 ≤ c.toNat ∧ c.toNat ≤ 57)
def stD (s : Ps) (c : UInt8) : Ps := ⟨s.a, 10 * s.n + (c.toNat - 48), s.p, s.d + 1⟩
def stE (s : Ps) : Option Ps := if s.d = 0 ∨ 255 < s.n then none else some ⟨(s.a * 256 + s.n) % 18446744073709551616, 0, s.p + 1, 0⟩
def step (s : Ps) (c : UInt8) : Option Ps := if isDg c = true then some (stD s c) else if c = 46 then stE s else none
def runP (l : List UInt8) : Option Ps := l.foldlM step ⟨0, 0, 0, 0⟩
theorem runP_take (l : List UInt8) (k : Nat) (h : k < l.length) : runP (l.take (k + 1)) = (runP (l.take k)).bind fun s => step s l[k] := by
  rw [List.take_add_one, List.getElem?_eq_getElem h]
  unfold runP
  rw [List.foldlM_append]
  show (List.foldlM step _ (l.take k)).bind (fun s => List.foldlM step s [l[k]]) = _
  congr 1
  funext s
  show (step s l[k]).bind (fun s' => some s') = step s l[k]
  cases step s l[k] <;> rfl
theorem runP_none (l : List UInt8) (k : Nat) (h : runP (l.take k) = none) : runP l = none := by
  have e : l = l.take k ++ l.drop k := (List.take_append_drop k l).symm
  unfold runP at h ⊢
  rw [e, List.foldlM_append, h]
  rfl
/-- What stands behind k rounds. -/
def runQ (l : List UInt8) (k : Nat) : Option Ps := if k ≤ l.length then runP (l.take k) else (runP l).bind stE
def refA (l : List UInt8) : Option Nat := if 15 < l.length then none else match (runP l).bind stE with
  | none => none
  | some s => if s.p = 4 ∧ textL (s.a % 4294967296) = l then some (s.a % 4294967296) else none
def refR (l : List UInt8) : Value := match refA l with
  | some a => .tuple #[.int .u32 (a : Int), .int .i64 0]
  | none => .tuple #[.int .u32 0, .int .i64 1]
theorem refR_none {l : List UInt8} (h : refA l = none) : refR l = .tuple #[.int .u32 0, .int .i64 1] := by unfold refR; rw [h]
theorem refR_some {l : List UInt8} {a : Nat} (h : refA l = some a) : refR l = .tuple #[.int .u32 (a : Int), .int .i64 0] := by unfold refR; rw [h]
theorem refA_bad {l : List UInt8} (h : (runP l).bind stE = none) : refA l = none := by
  unfold refA
  split
  · rfl
  · rw [h]
set_option maxRecDepth 100000 in
set_option maxHeartbeats 6400000 in
theorem rparse_any (s : ByteArray) (w : World) : Calls Tryd.prog 11 #[.string s] w fun e w' => e = .returned (refR s.data.toList) ∧ Below w.heap.size w w' := by
  have hsl : s.data.toList.length = s.size := Array.length_toList
  by_cases h15 : 15 < s.size
  · have HR := Lib.hid (refR_none (show refA s.data.toList = none by unfold refA; rw [if_pos (by omega)]))
    have hd : decide ((15 : Int) < (s.size : Int)) = true := decide_eq_true (by omega)
    clear hsl h15
    go_enter Tryd.func11, Tryd.ntmps11
    go_wp2_with fail
    go_ret2
    exact ⟨by rw [HR.out]; rfl, Below.refl _ _⟩
  · have hd : decide ((15 : Int) < (s.size : Int)) = false := decide_eq_false (by omega)
    have HSL := Lib.hid hsl
    obtain ⟨l, hl⟩ : ∃ l, s.data.toList = l := ⟨_, rfl⟩
    have HL := Lib.hid hl
    obtain ⟨n, hn⟩ : ∃ n, s.size = n := ⟨_, rfl⟩
    have hll : Hid (l.length = n) := by show _ = _; rw [← hl, hsl, hn]
    rw [hl]
    go_enter Tryd.func11, Tryd.ntmps11
    go_wp2_with fail
    go_loopw [4, 5, 6, 7, 8] (fun va vn vp vd i wr => ∃ (k : Nat) (st : Ps), k ≤ n + 1 ∧ i = .int .i64 (k : Int) ∧ va = .int .u64 (st.a : Int) ∧ vn = .int .i64 (st.n : Int) ∧ vp = .int .i64 (st.p : Int) ∧ vd = .int .i64 (st.d : Int) ∧ Hid (runQ l k = some st) ∧ Hid (st.a < 18446744073709551616 ∧ st.n < 10 ^ st.d ∧ st.d ≤ k ∧ st.p ≤ k) ∧ Hid (Below w.heap.size w wr)) (fun _ _ _ _ i _ => n + 1 - (intOf i).toNat)
    case atStart => exact ⟨0, ⟨0, 0, 0, 0⟩, by omega, rfl, rfl, rfl, rfl, rfl, rfl, ⟨by decide, by decide, by decide, by decide⟩, Below.refl _ _⟩
    case round =>
      obtain ⟨k, ⟨a, m, p, d⟩, hk, rfl, rfl, rfl, rfl, rfl, HQ, HBD, HB⟩ := hrel
      have hd15 : Hid (k ≤ n → m < 1000000000000000) := fun hkn => by
        obtain ⟨b1, b2, b3, b4⟩ := HBD.out
        have : 10 ^ d ≤ 10 ^ 15 := Nat.pow_le_pow_right (by omega) (by simp only at b3; omega)
        simp only at b2
        omega
      have hpk : p ≤ k := HBD.out.2.2.2
      have hdk : d ≤ k := HBD.out.2.2.1
      have ha64 : a < 18446744073709551616 := HBD.out.1
      by_cases hkn : k < n
      · have hks : k < s.size := by omega
        have hm15 := hd15.out (by omega)
        have hkl : k < l.length := by rw [hll.out]; exact hkn
        have hlk : l[k] = s[k] := by
          have h1 := Lib.data_getElem? s k hks
          rw [HL.out, List.getElem?_eq_getElem hkl] at h1
          exact Option.some.inj h1
        have HQ0 : Hid (runP (l.take k) = some ⟨a, m, p, d⟩) := by
          have := HQ.out
          unfold runQ at this
          rw [if_pos (by omega)] at this
          exact this
        have HQ1 : Hid (runP (l.take (k + 1)) = step ⟨a, m, p, d⟩ s[k]) := by
          show _ = _
          rw [runP_take l k hkl, HQ0.out, hlk]
          rfl
        have HRJ : Hid (step ⟨a, m, p, d⟩ s[k] = none → refR l = .tuple #[.int .u32 0, .int .i64 1]) := fun h => by
          refine refR_none (refA_bad ?_)
          rw [runP_none l (k + 1) (by rw [HQ1.out, h])]
          rfl
        have HQ2 : Hid (∀ st, step ⟨a, m, p, d⟩ s[k] = some st → runQ l (k + 1) = some st) := fun st h => by
          unfold runQ
          rw [if_pos (by omega), HQ1.out, h]
        have hc256 : s[k].toNat < 256 := s[k].toNat_lt
        clear hlk hkl HQ HQ0 HQ1 hsl
        by_cases hdg : 48 ≤ s[k].toNat ∧ s[k].toNat ≤ 57
        · have g1 : decide ((48 : Int) ≤ (s[k].toNat : Int)) = true := decide_eq_true (by omega)
          have g2 : decide ((s[k].toNat : Int) ≤ 57) = true := decide_eq_true (by omega)
          have HS := Lib.hid (HQ2.out (stD ⟨a, m, p, d⟩ s[k]) (by unfold step isDg; rw [if_pos (decide_eq_true hdg)]))
          have hv : (10 * (m : Int) + ((s[k].toNat : Int) - 48)) = ((10 * m + (s[k].toNat - 48) : Nat) : Int) := by omega
          have HB2 : Hid (a < 18446744073709551616 ∧ 10 * m + (s[k].toNat - 48) < 10 ^ (d + 1) ∧ d + 1 ≤ k + 1 ∧ p ≤ k + 1) := by
            have b2 : m < 10 ^ d := HBD.out.2.1
            refine ⟨ha64, ?_, by omega, by omega⟩
            rw [Nat.pow_succ]
            omega
          have h48 : (48 : Int) ≤ (s[k].toNat : Int) := by omega
          have h57 : (s[k].toNat : Int) ≤ 57 := by omega
          clear hdg
          go_wp2_with fail
          go_roundw
          case rel => exact ⟨k + 1, stD ⟨a, m, p, d⟩ s[k], by omega, by go_num, rfl, congrArg (Value.int .i64) (by show _ = ((10 * m + (s[k].toNat - 48) : Nat) : Int); omega), rfl, rfl, HS, HB2, HB⟩
          case measure => simp [intOf]; omega
        · by_cases hpt : s[k].toNat = 46
          · have hcc : s[k] = 46 := UInt8.toNat_inj.1 (by rw [hpt]; rfl)
            have g1 : decide ((48 : Int) ≤ (s[k].toNat : Int)) = false := decide_eq_false (by omega)
            have g2 : ((s[k].toNat : Int) != 46) = false := by rw [bne_eq_false_iff_eq]; omega
            have hst : step ⟨a, m, p, d⟩ s[k] = stE ⟨a, m, p, d⟩ := by unfold step isDg; rw [if_neg (by simpa using fun h1 h2 => hdg ⟨h1, h2⟩), if_pos hcc]
            have HST := Lib.hid hst
            clear hcc hst hdg hpt
            by_cases h0 : d = 0
            · have HR := Lib.hid (HRJ.out (by rw [HST.out]; unfold stE; rw [if_pos (.inl h0)]))
              subst h0
              go_wp2_with fail
              go_ret2
              exact ⟨by rw [HR.out]; rfl, HB.out⟩
            · have e0 : ((d : Int) == 0) = false := beq_eq_false_iff_ne.2 (by omega)
              by_cases h255 : 255 < m
              · have HR := Lib.hid (HRJ.out (by rw [HST.out]; unfold stE; rw [if_pos (.inr h255)]))
                have e1 : decide ((255 : Int) < (m : Int)) = true := decide_eq_true (by omega)
                clear h0
                go_wp2_with fail
                go_ret2
                exact ⟨by rw [HR.out]; rfl, HB.out⟩
              · have e1 : decide ((255 : Int) < (m : Int)) = false := decide_eq_false (by omega)
                have HS := Lib.hid (HQ2.out ⟨(a * 256 + m) % 18446744073709551616, 0, p + 1, 0⟩ (by rw [HST.out]; unfold stE; rw [if_neg (fun h => by rcases h with h | h; exact h0 h; exact h255 h)]))
                have HB2 : Hid ((a * 256 + m) % 18446744073709551616 < 18446744073709551616 ∧ 0 < 10 ^ 0 ∧ 0 ≤ k + 1 ∧ p + 1 ≤ k + 1) := ⟨Nat.mod_lt _ (by omega), by decide, by omega, by omega⟩
                have hm255 : m ≤ 255 := by omega
                clear h0 h255
                go_wp2_with fail
                go_roundw
                case rel => exact ⟨k + 1, ⟨(a * 256 + m) % 18446744073709551616, 0, p + 1, 0⟩, by omega, by go_num, congrArg (Value.int .u64) (by simp only [wrap_u64]; omega), rfl, by go_num, rfl, HS, HB2, HB⟩
                case measure => simp [intOf]; omega
          · have g2 : ((s[k].toNat : Int) != 46) = true := by rw [bne_iff_ne]; omega
            have hcc : s[k] ≠ 46 := fun h => hpt (by rw [h]; rfl)
            have HR := Lib.hid (HRJ.out (by unfold step isDg; rw [if_neg (by simpa using fun h1 h2 => hdg ⟨h1, h2⟩), if_neg hcc]))
            by_cases h48 : 48 ≤ s[k].toNat
            · have g1 : decide ((48 : Int) ≤ (s[k].toNat : Int)) = true := decide_eq_true (by omega)
              have g3 : decide ((s[k].toNat : Int) ≤ 57) = false := decide_eq_false (by omega)
              clear hcc hdg hpt h48
              go_wp2_with fail
              go_ret2
              exact ⟨by rw [HR.out]; rfl, HB.out⟩
            · have g1 : decide ((48 : Int) ≤ (s[k].toNat : Int)) = false := decide_eq_false (by omega)
              clear hcc hdg hpt h48
              go_wp2_with fail
              go_ret2
              exact ⟨by rw [HR.out]; rfl, HB.out⟩
      · by_cases hkn2 : k = n
        · have hm15 := hd15.out (by omega)
          have hlt : decide ((k : Int) < (n : Int)) = false := decide_eq_false (by omega)
          have hle : decide ((k : Int) ≤ (n : Int)) = true := decide_eq_true (by omega)
          have HQ0 : Hid (runP l = some ⟨a, m, p, d⟩) := by
            have h1 := HQ.out
            unfold runQ at h1
            rw [if_pos (by have := hll.out; omega), List.take_of_length_le (by have := hll.out; omega)] at h1
            exact h1
          have HRJ : Hid (stE ⟨a, m, p, d⟩ = none → refR l = .tuple #[.int .u32 0, .int .i64 1]) := fun h => refR_none (refA_bad (by rw [HQ0.out]; exact h))
          have HQ2 : Hid (∀ st, stE ⟨a, m, p, d⟩ = some st → runQ l (k + 1) = some st) := fun st h => by
            unfold runQ
            rw [if_neg (by have := hll.out; omega), HQ0.out]
            exact h
          have HST : Hid (stE ⟨a, m, p, d⟩ = stE ⟨a, m, p, d⟩) := rfl
          clear HQ HQ0 hsl
          by_cases h0 : d = 0
          · have HR := Lib.hid (HRJ.out (by rw [HST.out]; unfold stE; rw [if_pos (.inl h0)]))
            subst h0
            go_wp2_with fail
            go_ret2
            exact ⟨by rw [HR.out]; rfl, HB.out⟩
          · have e0 : ((d : Int) == 0) = false := beq_eq_false_iff_ne.2 (by omega)
            by_cases h255 : 255 < m
            · have HR := Lib.hid (HRJ.out (by rw [HST.out]; unfold stE; rw [if_pos (.inr h255)]))
              have e1 : decide ((255 : Int) < (m : Int)) = true := decide_eq_true (by omega)
              clear h0
              go_wp2_with fail
              go_ret2
              exact ⟨by rw [HR.out]; rfl, HB.out⟩
            · have e1 : decide ((255 : Int) < (m : Int)) = false := decide_eq_false (by omega)
              have HS := Lib.hid (HQ2.out ⟨(a * 256 + m) % 18446744073709551616, 0, p + 1, 0⟩ (by rw [HST.out]; unfold stE; rw [if_neg (fun h => by rcases h with h | h; exact h0 h; exact h255 h)]))
              have HB2 : Hid ((a * 256 + m) % 18446744073709551616 < 18446744073709551616 ∧ 0 < 10 ^ 0 ∧ 0 ≤ k + 1 ∧ p + 1 ≤ k + 1) := ⟨Nat.mod_lt _ (by omega), by decide, by omega, by omega⟩
              have hm255 : m ≤ 255 := by omega
              clear h0 h255
              go_wp2_with fail
              go_roundw
              case rel => exact ⟨k + 1, ⟨(a * 256 + m) % 18446744073709551616, 0, p + 1, 0⟩, by omega, by go_num, congrArg (Value.int .u64) (by simp only [wrap_u64]; omega), rfl, by go_num, rfl, HS, HB2, HB⟩
              case measure => simp [intOf]; omega
        · have hkk : k = n + 1 := by omega
          have hle : decide ((k : Int) ≤ (n : Int)) = false := decide_eq_false (by omega)
          have HQ0 : Hid ((runP l).bind stE = some ⟨a, m, p, d⟩) := by
            have h1 := HQ.out
            unfold runQ at h1
            rw [if_neg (by have := hll.out; omega)] at h1
            exact h1
          have hRA : Hid (refA l = if p = 4 ∧ textL (a % 4294967296) = l then some (a % 4294967296) else none) := by
            show _ = _
            unfold refA
            rw [if_neg (by have := hll.out; omega), HQ0.out]
          have hx : a % 4294967296 < 4294967296 := Nat.mod_lt _ (by omega)
          have hw : (a : Int) % 4294967296 = ((a % 4294967296 : Nat) : Int) := by omega
          obtain ⟨x, hxe⟩ : ∃ x, a % 4294967296 = x := ⟨_, rfl⟩
          rw [hxe] at hRA hx hw
          have HX := Lib.hid hx
          clear HQ HQ0 hsl hkn hkn2 hxe hd15
          by_cases h4 : p = 4
          · subst h4
            by_cases ht : textL x = l
            · have hcm : (textL x == s.toList) = true := by
                rw [toList_str, HL.out]
                simp [ht]
              have HR := Lib.hid (refR_some (show refA l = some x by rw [hRA.out, if_pos ⟨rfl, ht⟩]))
              clear ht hx
              go_wp2_with fail
              (with_reducible refine (rtext_any x wr HX.out).mono ?_)
              rintro e w2 ⟨rfl, hb2⟩
              have hb3 := below_call HB.out hb2
              go_wp2_with fail
              go_ret2
              exact ⟨by rw [HR.out, ← hw]; rfl, hb3⟩
            · have hcm : (textL x == s.toList) = false := by
                rw [toList_str, HL.out]
                exact beq_eq_false_iff_ne.2 ht
              have HR := Lib.hid (refR_none (show refA l = none by rw [hRA.out, if_neg (fun h => ht h.2)]))
              clear ht hx
              go_wp2_with fail
              (with_reducible refine (rtext_any x wr HX.out).mono ?_)
              rintro e w2 ⟨rfl, hb2⟩
              have hb3 := below_call HB.out hb2
              go_wp2_with fail
              go_ret2
              exact ⟨by rw [HR.out]; rfl, hb3⟩
          · have hb4 : ((p : Int) != 4) = true := by rw [bne_iff_ne]; omega
            have HR := Lib.hid (refR_none (show refA l = none by rw [hRA.out, if_neg (fun h => h4 h.1)]))
            clear h4 hx
            go_wp2_with fail
            go_ret2
            exact ⟨by rw [HR.out]; rfl, HB.out⟩
end Go.Proofs.YtfhdkcdhfdapbaaDoor
