/- The walks of towpathnum.Copy and Kept. -/
import Derived.Test.YtkgkbmiacomhdaaU8
namespace Go.Proofs.Ytkgkbmiacomhdaa
set_option linter.unusedVariables false
set_option linter.unusedSimpArgs false
open Go.RowKit

/-- The two marks. -/
def marked (xs : List UInt8) : List UInt8 := xs ++ [0xa5, 0x5a]

set_option maxHeartbeats 400000 in
theorem copy_any (xs : List UInt8) (A : Option Addr) (c : Nat) (w : World) (hA : RB w A xs) (hc : xs.length ≤ c) (hn : xs.length ≤ 4000000) :
    Calls Try.prog 34 #[.slice A xs.length c] w fun e w' => ∃ g, e = .returned (.slice (some ⟨g, 0, none⟩) xs.length (xs.length + 2)) ∧ w.heap.size ≤ g ∧ Blk w' g 5 ((marked xs).map bv) ∧ Below w.heap.size w w' := by
  obtain ⟨i0, hi, hz0, hz1, hz2⟩ := info_parts info_u8
  go_enter Try.func34, Try.ntmps34
  go_wp2_with (at_make; refine wpList_make_own _ rfl _ _ 42 rfl w.heap.size 5 i0 (.int .u8 0) 1 Try.underlying42 hi hz0 hz1 .i64 .i64 _ (xs.length + 2) rfl rfl (by omega) (by rw [hz2]; omega) (by unfold maxLen; omega) (Nat.le_refl _) ?_)
  intro w1 hown1 hg1
  have HB1 : Below w.heap.size w w1 := (Below.refl _ _).grown hg1 (Nat.le_refl _) (fun k hk => by cases hk)
  go_wp2_with (at_builtin; refine wl_fit _ rfl (.tmp 6) (.tmp 7) 42 rfl w.heap.size 5 i0 1 Try.underlying42 hi hz1 (by omega) w.heap.size 0 (xs.length + 2) [] rfl hown1 A xs.length c (xs.map bv) rfl (by simp) (RC.below hA HB1) (one_bv xs) (by omega) ?_)
  intro w2 hown2 hg2
  try simp only [Nat.zero_add, List.nil_append] at hown2
  have HB2 : Below w.heap.size w w2 := HB1.grown hg2 HB1.size (fun k hk => by cases hk; exact Nat.le_refl _)
  go_wp2_with (at_builtin; refine wl_fit _ rfl (.tmp 8) (.tmp 9) 42 rfl w.heap.size 5 i0 1 Try.underlying42 hi hz1 (by omega) w.heap.size xs.length (xs.length + 2) (xs.map bv) rfl (hown2.alloc _) (some ⟨w2.heap.size, 0, none⟩) 2 2 [.int .u8 165, .int .u8 90] rfl (by simp) (rc_new w2 _ _) (by simp [Value.oneCell']) (by omega) ?_)
  intro w3 hown3 hg3
  have HB3 : Below w.heap.size w w3 := ((HB2.alloc HB2.size _)).grown hg3 (by have := HB2.size; simp; omega) (fun k hk => by cases hk; exact Nat.le_refl _)
  have hblk : Blk w3 w.heap.size 5 ((marked xs).map bv) := by
    have := Blk.of_own hown3 rfl
    rw [marked, List.map_append]
    exact this
  clear hown1 hg1 hown2 hg2 hown3 hg3
  go_wp2
  go_ret
  exact ⟨w.heap.size, rfl, Nat.le_refl _, hblk, HB3⟩

theorem marked_rb {w : World} {g : Nat} {t : TypeId} {xs : List UInt8} (h : Blk w g t ((marked xs).map bv)) : RB w (some ⟨g, 0, none⟩) xs := by
  have h1 := RC.take_ h.rc xs.length
  rw [marked, List.map_append, List.take_append_of_le_length (by simp), List.take_of_length_le (by simp)] at h1
  exact h1

set_option maxHeartbeats 400000 in
theorem kept_any (xs : List UInt8) (g : Nat) (A : Option Addr) (c : Nat) (w : World) (hA : RB w A xs) (hg : Blk w g 5 ((marked xs).map bv)) (hn : xs.length ≤ 4000000) :
    Calls Try.prog 36 #[.slice (some ⟨g, 0, none⟩) xs.length (xs.length + 2), .slice A xs.length c] w fun e w' => e = .returned (.bool true) ∧ Below w.heap.size w w' := by
  have hX : RB w (some ⟨g, 0, none⟩) xs := marked_rb hg
  have s1 := run_str (P := Try.prog) w _ _ _ Try.underlying42 Try.underlying5 Try.underlying9 _ _ (xs.length + 2) _ hX rfl
  have s2 := run_str (P := Try.prog) w _ _ _ Try.underlying42 Try.underlying5 Try.underlying9 _ _ c _ hA rfl
  have c1 : w.cell? ⟨g, xs.length, none⟩ = some (.int .u8 165) := by rw [hg.cell]; simp [marked]
  have c2 : w.cell? ⟨g, xs.length + 1, none⟩ = some (.int .u8 90) := by rw [hg.cell]; simp [marked]
  go_enter Try.func36, Try.ntmps36
  go_wp2
  go_ret
  exact ⟨rfl, Below.refl _ _⟩

end Go.Proofs.Ytkgkbmiacomhdaa
