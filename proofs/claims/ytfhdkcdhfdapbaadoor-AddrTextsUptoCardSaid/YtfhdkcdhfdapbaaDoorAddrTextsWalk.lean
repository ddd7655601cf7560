/- The walk of AddrTexts. -/
import Derived.Test.YtfhdkcdhfdapbaaDoorAdRefP
import Derived.Test.YtfhdkcdhfdapbaaDoorErr
import Derived.Test.YtfhdkcdhfdapbaaDoorAdHome
namespace Go.Proofs.YtfhdkcdhfdapbaaDoor
set_option linter.unusedVariables false
set_option linter.unusedSimpArgs false
open Go.RowKit Go.Sort

theorem run_digits : ∀ (l : List UInt8), l.all isDg = true → ∀ (A n P d : Nat), l.foldlM step ⟨A, n, P, d⟩ = some ⟨A, l.foldl (fun n c => 10 * n + (c.toNat - 48)) n, P, d + l.length⟩
  | [], _, A, n, P, d => rfl
  | c :: r, h, A, n, P, d => by
    rw [List.all_cons, Bool.and_eq_true] at h
    have h1 := run_digits r h.2 A (10 * n + (c.toNat - 48)) P (d + 1)
    show (step ⟨A, n, P, d⟩ c).bind (fun s => r.foldlM step s) = _
    have h2 : step ⟨A, n, P, d⟩ c = some ⟨A, 10 * n + (c.toNat - 48), P, d + 1⟩ := by unfold step; rw [if_pos h.1]; rfl
    rw [h2]
    show r.foldlM step ⟨A, 10 * n + (c.toNat - 48), P, d + 1⟩ = _
    rw [h1]
    simp only [List.foldl_cons, List.length_cons]
    rw [show d + 1 + r.length = d + (r.length + 1) by omega]
theorem num_fin : ∀ b : Fin 256, (numL b.val).all isDg = true ∧ (numL b.val).foldl (fun n c => 10 * n + (c.toNat - 48)) 0 = b.val ∧ (numL b.val).length ≠ 0 := by decide +kernel
theorem run_num (b : Nat) (h : b < 256) (A P : Nat) : (numL b).foldlM step ⟨A, 0, P, 0⟩ = some ⟨A, b, P, (numL b).length⟩ := by
  obtain ⟨h1, h2, h3⟩ := num_fin ⟨b, h⟩
  simp only at h1 h2 h3
  rw [run_digits (numL b) h1, h2, Nat.zero_add]
theorem stE_num (b : Nat) (h : b < 256) (A P : Nat) : stE ⟨A, b, P, (numL b).length⟩ = some ⟨(A * 256 + b) % 18446744073709551616, 0, P + 1, 0⟩ := by
  obtain ⟨h1, h2, h3⟩ := num_fin ⟨b, h⟩
  unfold stE
  rw [if_neg (fun hh => by
    rcases hh with hh | hh
    · exact h3 hh
    · have : 255 < b := hh
      omega)]
theorem run_piece (b : Nat) (h : b < 256) (A P : Nat) (r : List UInt8) : (numL b ++ 46 :: r).foldlM step ⟨A, 0, P, 0⟩ = r.foldlM step ⟨(A * 256 + b) % 18446744073709551616, 0, P + 1, 0⟩ := by
  rw [List.foldlM_append, run_num b h]
  show (step ⟨A, b, P, (numL b).length⟩ 46).bind (fun s => r.foldlM step s) = _
  have h2 : step ⟨A, b, P, (numL b).length⟩ 46 = stE ⟨A, b, P, (numL b).length⟩ := by unfold step; rw [if_neg (by decide), if_pos rfl]
  rw [h2, stE_num b h]
  rfl
theorem text_len (a : Nat) (h : a < 4294967296) : (textL a).length ≤ 15 := by
  have h0 := numL_len _ (adB_lt a 0 h)
  have h1 := numL_len _ (adB_lt a 1 h)
  have h2 := numL_len _ (adB_lt a 2 h)
  have h3 := numL_len _ (adB_lt a 3 h)
  unfold textL
  rw [join_two, join_two, join_two, Lib.join_one]
  simp only [List.length_append, List.length_cons]
  omega
theorem refA_text (a : Nat) (h : a < 4294967296) : refA (textL a) = some a := by
  have hl := text_len a h
  have hr : (runP (textL a)).bind stE = some ⟨a, 0, 4, 0⟩ := by
    unfold textL runP
    rw [join_two, join_two, join_two, Lib.join_one, run_piece _ (adB_lt a 0 h), run_piece _ (adB_lt a 1 h), run_piece _ (adB_lt a 2 h), run_num _ (adB_lt a 3 h)]
    show stE _ = _
    rw [stE_num _ (adB_lt a 3 h)]
    have e0 : adB a 0 = a / 16777216 := rfl
    have e1 : adB a 1 = a / 65536 % 256 := rfl
    have e2 : adB a 2 = a / 256 % 256 := rfl
    have e3 : adB a 3 = a % 256 := rfl
    rw [e0, e1, e2, e3]
    have e : ((((0 * 256 + a / 16777216) % 18446744073709551616 * 256 + a / 65536 % 256) % 18446744073709551616 * 256 + a / 256 % 256) % 18446744073709551616 * 256 + a % 256) % 18446744073709551616 = a := by omega
    rw [e]
  unfold refA
  rw [if_neg (by omega), hr]
  have hm : a % 4294967296 = a := Nat.mod_eq_of_lt h
  simp only [hm]
  rw [if_pos ⟨trivial, trivial⟩]
theorem refA_eq (s : ByteArray) : refA s.data.toList = parseA s := by
  cases hp : parseA s with
  | some a =>
    obtain ⟨rfl, ha⟩ := parse_some hp
    exact refA_text a ha
  | none =>
    cases hr : refA s.data.toList with
    | none => rfl
    | some x =>
      exfalso
      unfold refA at hr
      split at hr
      · cases hr
      · split at hr
        · cases hr
        · split at hr
          · rename_i st _ hc
            injection hr with hr
            have hx : x < 4294967296 := by rw [← hr]; exact Nat.mod_lt _ (by omega)
            have ht := hc.2
            rw [hr] at ht
            have hs : s = strOf (textL x) := by
              apply ByteArray.ext
              rw [ht]
            have := parse_text x hx
            rw [← hs, hp] at this
            cases this
          · cases hr
set_option maxRecDepth 100000 in
set_option maxHeartbeats 3200000 in
theorem AddrTexts_walk (x0 : Int) (s : ByteArray) (w : World) (hG : Gd w) (u0 : (Lit.int .u32 x0).wf = true) (hs : s.size ≤ 1048576) :
    Calls Tryd.prog 3 #[.int .u32 x0, .string s] w fun e w' => e = .returned (.bool true) ∧ Below w.heap.size w w' := by
  obtain ⟨a, rfl, ha⟩ := u32_nat u0
  have hre := refA_eq s
  go_enter Tryd.func3, Tryd.ntmps3
  go_wp2_with fail
  (with_reducible refine (alive_any w hG).mono ?_)
  rintro e w1 ⟨rfl, hb1⟩
  go_wp2_with fail
  (with_reducible refine (parse_any s w1 hs (hG.below hb1)).mono ?_)
  rintro e w2 ⟨rfl, hb2⟩
  have hbw2 := below_call hb1 hb2
  cases hp : parseA s with
  | some x =>
    have HR := Lib.hid (refR_some (hre.trans hp))
    rw [parseR_some hp]
    clear hp hre
    go_wp2_with fail
    (with_reducible refine (rparse_any s w2).mono ?_)
    rintro e w3 ⟨rfl, hb3⟩
    have hbw3 := below_call hbw2 hb3
    rw [HR.out]
    go_wp2_with fail
    (with_reducible refine (text_any a w3 ha (hG.below hbw3)).mono ?_)
    rintro e w4 ⟨rfl, hb4⟩
    have hbw4 := below_call hbw3 hb4
    go_wp2_with fail
    (with_reducible refine (rtext_any a w4 ha).mono ?_)
    rintro e w5 ⟨rfl, hb5⟩
    have hbw5 := below_call hbw4 hb5
    generalize textL a = t at *
    go_wp2_with fail
    (with_reducible refine (num_nil w5).mono ?_)
    rintro e w6 ⟨rfl, rfl⟩
    go_wp2_with fail
    go_ret
    exact ⟨rfl, hbw5⟩
  | none =>
    have HR := Lib.hid (refR_none (hre.trans hp))
    rw [parseR_none hp]
    clear hp hre
    go_wp2_with fail
    (with_reducible refine (rparse_any s w2).mono ?_)
    rintro e w3 ⟨rfl, hb3⟩
    have hbw3 := below_call hbw2 hb3
    rw [HR.out]
    go_wp2_with fail
    (with_reducible refine (text_any a w3 ha (hG.below hbw3)).mono ?_)
    rintro e w4 ⟨rfl, hb4⟩
    have hbw4 := below_call hbw3 hb4
    go_wp2_with fail
    (with_reducible refine (rtext_any a w4 ha).mono ?_)
    rintro e w5 ⟨rfl, hb5⟩
    have hbw5 := below_call hbw4 hb5
    generalize textL a = t at *
    go_wp2_with fail
    (with_reducible refine (num_er 1 (by decide) w5).mono ?_)
    rintro e w6 ⟨rfl, rfl⟩
    go_wp2_with fail
    go_ret
    exact ⟨rfl, hbw5⟩
end Go.Proofs.YtfhdkcdhfdapbaaDoor
