/- The walk of slices.Delete at letters: one letter out of the row, in place. -/
import Derived.Test.YtikichifdkgobaaFabSend
import Derived.Lib.SliceRun
namespace Go.Proofs.Ytikichifdkgobaa
set_option linter.unusedVariables false
set_option linter.unusedSimpArgs false
open Go.RowKit

theorem Blk.laid {g : Nat} {t : TypeId} : ∀ (vs : List Value) (o : Nat) (w : World) (cs : List Value), Blk w g t cs → o + vs.length ≤ cs.length → Blk (w.setCells g o vs) g t (cs.take o ++ vs ++ cs.drop (o + vs.length))
  | [], o, w, cs, h, _ => by simpa [World.setCells] using h
  | v :: r, o, w, cs, h, hl => by
    simp only [List.length_cons] at hl
    have h1 := Blk.laid r (o + 1) _ _ (h.set_ o v) (by rw [List.length_set]; omega)
    have e1 : (cs.set o v).take (o + 1) = cs.take o ++ [v] := by
      apply List.ext_getElem?
      intro j
      rw [List.getElem?_take]
      by_cases hj : j < o
      · rw [if_pos (by omega), List.getElem?_set_ne (by omega), List.getElem?_append_left (by rw [List.length_take]; omega), List.getElem?_take, if_pos hj]
      · by_cases hj2 : j = o
        · subst hj2
          rw [if_pos (by omega), List.getElem?_set_self (by omega), List.getElem?_append_right (by rw [List.length_take]; omega), List.length_take, show j - min j cs.length = 0 by omega]
          rfl
        · rw [if_neg (by omega), List.getElem?_eq_none (by rw [List.length_append, List.length_take]; simp; omega)]
    have e2 : (cs.set o v).drop (o + 1 + r.length) = cs.drop (o + (v :: r).length) := by
      apply List.ext_getElem?
      intro j
      rw [List.getElem?_drop, List.getElem?_drop, List.getElem?_set_ne (by omega), List.length_cons]
      congr 1
      omega
    rw [e1, e2] at h1
    simpa [World.setCells] using h1
theorem grown_laid (g : Nat) : ∀ (vs : List Value) (o : Nat) (w : World), w.grownBy (w.setCells g o vs) (some g)
  | [], o, w => ⟨rfl, rfl, rfl, Nat.le_refl _, fun _ _ _ => rfl⟩
  | v :: r, o, w => (grown_set w g o v).trans (grown_laid g r (o + 1) _)
def z5 : List Value := [.int .i64 0, .int .i64 0, .int .i64 0, .bool false, .slice none 0 0]
theorem run_clear5 (W : World) (ty : TypeId) (b o c : Nat) (hc : ∀ j, j < 5 → (W.cell? ⟨b, o + j, none⟩).isSome = true) (hf : ∀ j, j < 5 → W.frozen? ⟨b, o + j, none⟩ = false) :
    (Builtin.clear_ #[27] ty #[.slice (some ⟨b, o, none⟩) 1 c]).run Try.prog W = .ok (.tuple #[]) (W.setCells b o z5) := by
  have hst := run_storeCells_cells (P := Try.prog) b o z5 0 W (by simpa [z5] using hc) (by simpa [z5] using hf) (by intro u hu; simp [z5] at hu; rcases hu with rfl | rfl | rfl | rfl | rfl <;> rfl)
  have hz : ∀ W, (zeroValue 37).run Try.prog W = .ok (.agg #[.int .i64 0, .int .i64 0, .int .i64 0, .bool false, .slice none 0 0]) W := fun W => by kernel_rfl
  have hzc : (Builtin.zeroCells (Value.agg #[.int .i64 0, .int .i64 0, .int .i64 0, .bool false, .slice none 0 0]).cells 1).toList = z5 := by kernel_rfl
  simp only [Nat.add_zero] at hst
  simp [Builtin.clear_, run_underlying Try.underlying27, hz, hzc, hst]
theorem take_drop_all (l : List (Lh × Value)) (i : Nat) (hi : i < l.length) : (l.take i ++ l.drop (i + 1)).length = l.length - 1 := by
  rw [List.length_append, List.length_take, List.length_drop]; omega
set_option maxHeartbeats 1600000 in
theorem del_nat (base g m c i : Nat) (l : List (Lh × Value)) (w : World) (h : w.ownsRow base 37 5 (.slice (some ⟨g, 0, none⟩) (m + 1) c) (m + 1) (lcs l)) (h1 : ∀ p ∈ l, ∃ A k c, p.2 = .slice A k c) (hl : l.length = m + 1) (hi : i < m + 1) (hn : m + 1 ≤ 4096) :
    Calls Try.prog 37 #[.slice (some ⟨g, 0, none⟩) (m + 1) c, .int .i64 (i : Int), .int .i64 ((i + 1 : Nat) : Int)] w fun e w' => e = .returned (.slice (some ⟨g, 0, none⟩) m c) ∧ w'.ownsRow base 37 5 (.slice (some ⟨g, 0, none⟩) m c) m (lcs (l.take i ++ l.drop (i + 1))) ∧ w.grownBy w' (some g) := by
  obtain ⟨i0, hi0, hz0, hz1, hz2⟩ := info_parts info_lt
  obtain ⟨cur, hbg, hb, hnc, hcm, hcs, hct⟩ : ∃ cur : List Value, base ≤ g ∧ Blk w g 37 cur ∧ m + 1 ≤ c ∧ c ≤ maxLen ∧ cur.length = c * 5 ∧ cur.take ((m + 1) * 5) = lcs l := by
    rcases h.2 with ⟨hv, _⟩ | ⟨g', cap, cur, hv, q1, q2, q3, q4, q5, q6⟩
    · cases hv
    · injection hv with a1 a2 a3
      injection a1 with a1
      injection a1 with a1
      subst a1 a3
      exact ⟨cur.toList, q1, by unfold Blk; simpa using q2, q3, q4, by simpa using q5, q6⟩
  have hcm2 : c ≤ 9223372036854775807 := by unfold maxLen at hcm; omega
  obtain ⟨news, hnews⟩ : ∃ news, news = lcs (l.drop (i + 1)) := ⟨_, rfl⟩
  have hlen : news.length = (m - i) * 5 := by rw [hnews, lcs_length, List.length_drop, hl]; omega
  have hlb : Blk w.drew g 37 cur := hb
  have hsrcb : ∀ j u, news[j]? = some u → w.drew.cell? ⟨g, (i + 1) * 5 + j, none⟩ = some u := fun j u hu => by
    rw [hlb.cell]
    rw [hnews, ← lcs_drop, List.getElem?_drop, ← hct, List.getElem?_take] at hu
    split at hu
    · exact hu
    · cases hu
  obtain ⟨A, hA, hsrc⟩ : ∃ A : Addr, (if c = i + 1 then some (⟨g, 0, none⟩ : Addr) else some ⟨g, (i + 1) * 5, none⟩) = some A ∧ Hid (∀ t u, news[t]? = some u → w.drew.cell? (A.add t) = some u) := by
    by_cases hcc : c = i + 1
    · refine ⟨⟨g, 0, none⟩, by simp [hcc], fun t u hu => ?_⟩
      have h0 : news.length = 0 := by rw [hlen]; omega
      rw [List.length_eq_zero_iff.1 h0] at hu
      simp at hu
    · refine ⟨⟨g, (i + 1) * 5, none⟩, by simp [hcc], fun t u hu => ?_⟩
      rw [Addr.add_lit]
      exact hsrcb t u hu
  have s1 : Hid (news.length = (m - i) * 5) := hlen
  have s2 : Hid (∀ u ∈ news, u.oneCell' = true) := fun u hu => lcs_one (l.drop (i + 1)) u (by rw [← hnews]; exact hu) (fun p hp => h1 p (List.mem_of_mem_drop hp))
  have s3 : Hid (∀ t, t < news.length → (w.drew.cell? ⟨g, 0 + i * 5 + t, none⟩).isSome = true ∧ w.drew.frozen? ⟨g, 0 + i * 5 + t, none⟩ = false) := by
    intro t ht
    rw [hlen] at ht
    refine ⟨?_, hlb.frozen _⟩
    rw [hlb.cell, List.getElem?_eq_getElem (by rw [hcs]; omega)]
    rfl
  obtain ⟨W1, hW1⟩ : ∃ W1, W1 = w.drew.setCells g (0 + i * 5) news := ⟨_, rfl⟩
  have hB1 : Blk W1 g 37 (cur.take (i * 5) ++ news ++ cur.drop (i * 5 + news.length)) := by
    have := Blk.laid news (0 + i * 5) w.drew cur hlb (by rw [hlen, hcs]; omega)
    rw [← hW1, Nat.zero_add] at this
    exact this
  have hL1 : (cur.take (i * 5) ++ news ++ cur.drop (i * 5 + news.length)).length = c * 5 := by
    rw [List.length_append, List.length_append, List.length_take, List.length_drop, hlen, hcs]; omega
  have hcl := fun ty => run_clear5 W1 ty g (m * 5) (c - m) (fun j hj => by rw [hB1.cell, List.getElem?_eq_getElem (by rw [hL1]; omega)]; rfl) (fun j hj => hB1.frozen _)
  have hG1 : w.grownBy W1 (some g) := by
    rw [hW1]
    exact (grown_of_below (row := some g) (Below.drew (Below.refl _ w))).trans (grown_laid g news _ _)
  have hW : Hid (W1 = w.drew.setCells g (0 + i * 5) news) := hW1
  have fin : Hid ((W1.setCells g (m * 5) z5).ownsRow base 37 5 (.slice (some ⟨g, 0, none⟩) m c) m (lcs (l.take i ++ l.drop (i + 1)))) := by
    have hB2 := Blk.laid z5 (m * 5) W1 _ hB1 (by rw [hL1]; simp [z5]; omega)
    refine ⟨by rw [lcs_length, take_drop_all l i (by omega), hl]; omega, .inr ⟨g, c, _, rfl, hbg, hB2, by omega, hcm, ?_, ?_⟩⟩
    · simp only [List.size_toArray, List.length_append, List.length_take, List.length_drop, hlen, hcs, z5, List.length_cons, List.length_nil]
      omega
    · have e1 : (cur.take (i * 5) ++ news ++ cur.drop (i * 5 + news.length)).take (m * 5) = cur.take (i * 5) ++ news := by
        rw [show m * 5 = (cur.take (i * 5) ++ news).length by rw [List.length_append, List.length_take, hlen, hcs]; omega, List.take_left]
      rw [List.toList_toArray, List.append_assoc, e1, show m * 5 = (cur.take (i * 5) ++ news).length by rw [List.length_append, List.length_take, hlen, hcs]; omega, List.take_left, lcs_append, hnews]
      congr 1
      rw [← lcs_take, ← hct, List.take_take, show min (i * 5) ((m + 1) * 5) = i * 5 by omega]
  have hG : Hid (w.grownBy (W1.setCells g (m * 5) z5) (some g)) := hG1.trans (grown_laid g _ _ _)
  have hic : i ≤ c := by omega
  have hjc : i + 1 ≤ c := by omega
  have q0 : 0 ≤ (i : Int) + 1 := by omega
  have q1 : (i : Int) + 1 ≤ (m : Int) + 1 := by omega
  clear hG1 hB1 hL1 hW1 hsrcb hlb hlen hnews hct hcs hb h h1 hl hcm
  go_enter Try.func37, Try.ntmps37
  go_wp2_with fail
  go_region_law (refine step_append_room rfl (.tmp 22) (.tmp 25) 27 rfl 37 i0 5 Try.underlying27 hi0 hz1 g 0 i c (by simp [Act.eval, Act.put]) A (m - i) (c - (i + 1)) news (by simp [Act.eval, Act.put]) s1.out hsrc.out s2.out (by omega) s3.out ?_; rw [← hW.out, show i + (m - i) = m by omega])
  go_wp2_with fail
  go_ret
  exact ⟨rfl, fin.out, hG.out⟩
theorem del_any (base g n c i : Nat) (j : Int) (l : List (Lh × Value)) (w : World) (h : w.ownsRow base 37 5 (.slice (some ⟨g, 0, none⟩) n c) n (lcs l)) (h1 : ∀ p ∈ l, ∃ A k c, p.2 = .slice A k c) (hl : l.length = n) (hi : i < n) (hn : n ≤ 4096) (hj : j = (i : Int) + 1) :
    Calls Try.prog 37 #[.slice (some ⟨g, 0, none⟩) n c, .int .i64 (i : Int), .int .i64 j] w fun e w' => e = .returned (.slice (some ⟨g, 0, none⟩) (n - 1) c) ∧ w'.ownsRow base 37 5 (.slice (some ⟨g, 0, none⟩) (n - 1) c) (n - 1) (lcs (l.take i ++ l.drop (i + 1))) ∧ w.grownBy w' (some g) := by
  obtain ⟨m, rfl⟩ : ∃ m, n = m + 1 := ⟨n - 1, by omega⟩
  subst hj
  exact del_nat base g m c i l w h h1 hl hi hn
end Go.Proofs.Ytikichifdkgobaa
