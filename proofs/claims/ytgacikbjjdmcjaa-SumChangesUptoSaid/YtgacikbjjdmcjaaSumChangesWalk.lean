/- The walk of the law SumChanges. -/
import Derived.Test.YtgacikbjjdmcjaaAlive02
import Derived.Deep.RegionLaw
namespace Go.Proofs.Ytgacikbjjdmcjaa
set_option linter.unusedVariables false
set_option linter.unusedSimpArgs false
open Go.RowKit

theorem info_pair : (Try.prog.info? 26).map (fun i => (i.zero, i.size, i.bytes)) = some (some (.agg #[.int .u16 0, .int .u16 0]), 2, 4) := by kernel_rfl

/-- The pairs that are laid. -/
def prs (xs ys : List Nat) (k : Nat) : List (Nat × Nat) := (xs.zip ys).take k
theorem prs_zero (xs ys : List Nat) : prs xs ys 0 = [] := rfl
theorem prs_len (xs ys : List Nat) (k : Nat) (h1 : k ≤ xs.length) (h2 : k ≤ ys.length) : (prs xs ys k).length = k := by unfold prs; rw [List.length_take, List.length_zip]; omega
theorem prs_succ (xs ys : List Nat) (k : Nat) (h1 : k < xs.length) (h2 : k < ys.length) : prs xs ys (k + 1) = prs xs ys k ++ [(xs[k], ys[k])] := by
  unfold prs
  rw [take_snoc _ _ (by rw [List.length_zip]; omega), List.getElem_zip]
theorem prs_mem (xs ys : List Nat) (k : Nat) (hx : ∀ x ∈ xs, x ≤ 65535) (hy : ∀ y ∈ ys, y ≤ 65535) : ∀ p ∈ prs xs ys k, p.1 ≤ 65535 ∧ p.2 ≤ 65535 := fun p hp => by
  have h := List.mem_of_mem_take hp
  have := List.of_mem_zip h
  exact ⟨hx _ this.1, hy _ this.2⟩
theorem qcells_snoc (l : List (Nat × Nat)) (p : Nat × Nat) : qcells (l ++ [p]) = qcells l ++ [.int .u16 (p.1 : Int), .int .u16 (p.2 : Int)] := by simp [qcells]

set_option maxHeartbeats 1600000 in
theorem SumChanges_walk (c : Int) (xs : List Nat) (A1 : Option Addr) (c1 : Nat) (ys : List Nat) (A2 : Option Addr) (c2 : Nat) (w : World)
    (hc : (Lit.int .u16 c).wf = true) (l1 : xs.length ≤ c1) (r1 : RC w A1 (xs.map fun n : Nat => Value.int .u16 (n : Int))) (u1 : ∀ x ∈ xs, x ≤ 65535) (n1 : xs.length ≤ 1048576)
    (l2 : ys.length ≤ c2) (r2 : RC w A2 (ys.map fun n : Nat => Value.int .u16 (n : Int))) (u2 : ∀ x ∈ ys, x ≤ 65535) (n2 : ys.length ≤ 1048576) :
    Calls Try.prog 3 #[.int .u16 c, .slice A1 xs.length c1, .slice A2 ys.length c2] w fun e w' => e = .returned (.bool true) ∧ Below w.heap.size w w' := by
  obtain ⟨i0, hi, hz0, hz1, hz2⟩ := info_parts info_pair
  have hc2 : 0 ≤ c ∧ c ≤ 65535 := by simpa [Lit.wf, IntKind.min, IntKind.max, IntKind.signed, IntKind.bits] using hc
  clear hc
  obtain ⟨c, rfl⟩ : ∃ k : Nat, c = (k : Int) := ⟨c.toNat, by omega⟩
  have hc : c ≤ 65535 := by omega
  clear hc2
  obtain ⟨n, hn, hx, hy, hmin⟩ : ∃ n : Nat, n ≤ 2000 ∧ n ≤ xs.length ∧ n ≤ ys.length ∧ ∀ (ts : Array TypeId) (t : TypeId) (W : World), (Builtin.min_ ts t #[.int .i64 (xs.length : Int), .int .i64 (ys.length : Int), .int .i64 2000]).run Try.prog W = .ok (.int .i64 (n : Int)) W :=
    ⟨min (min xs.length ys.length) 2000, by omega, by omega, by omega, fun ts t W => by
      simp [Builtin.min_, Builtin.min2]
      repeat' split
      all_goals omega⟩
  go_enter Try.func3, Try.ntmps3
  go_wp2_with fail
  refine (alive_any w).mono ?_
  rintro e w1 ⟨rfl, hb1⟩
  have tt := hb1.size
  go_wp2_with fail
  clear hmin
  go_loopw [8, 9, 10] (fun v s i wr => ∃ k : Nat, k ≤ n ∧ i = .int .i64 (k : Int) ∧ s = .int .u16 (upd c (prs xs ys k) : Int) ∧ wr.ownsRow w.heap.size 26 2 v k (qcells (prs xs ys k)) ∧ Below w.heap.size w wr) (fun _ _ i _ => n - (intOf i).toNat)
  case atStart => exact ⟨0, Nat.zero_le _, rfl, rfl, ⟨rfl, .inr ⟨w1.heap.size, 0, #[], rfl, hb1.size, heap_alloc_new w1 _, Nat.le_refl _, Nat.zero_le _, rfl, rfl⟩⟩, hb1.alloc hb1.size _⟩
  case round =>
    obtain ⟨k, hk, rfl, rfl, hown, hb⟩ := hrel
    by_cases hlt : k < n
    · obtain ⟨ad, rfl, ca0⟩ := r1 k (.int .u16 ((xs[k]'(by omega) : Nat) : Int)) (by rw [List.getElem?_map, List.getElem?_eq_getElem (by omega)]; rfl)
      obtain ⟨ad2, rfl, cb0⟩ := r2 k (.int .u16 ((ys[k]'(by omega) : Nat) : Int)) (by rw [List.getElem?_map, List.getElem?_eq_getElem (by omega)]; rfl)
      have hxk := u1 _ (List.getElem_mem (l := xs) (n := k) (by omega))
      have hyk := u2 _ (List.getElem_mem (l := ys) (n := k) (by omega))
      have HP := Lib.hid (prs_succ xs ys k (by omega) (by omega))
      generalize xs[k]'(by omega) = x at *
      generalize ys[k]'(by omega) = y at *
      have CA := Lib.hid ca0
      have CB := Lib.hid cb0
      clear ca0 cb0
      have ca := cell_keep hb CA.out
      have cb := cell_keep hb CB.out
      have j1 : (k : Int) < (xs.length : Int) := by omega
      have j2 : (k : Int) < (ys.length : Int) := by omega
      have hbs := hb.size
      go_wp2
      go_region_law (refine step_app _ rfl _ _ 25 rfl w.heap.size 26 i0 (.agg #[.int .u16 0, .int .u16 0]) 2 4 Try.underlying25 hi hz0 hz1 hz2 rfl (by omega) _ _ _ rfl (hown.drew.alloc _) (some ⟨wr.heap.size, 0, none⟩) 1 1 [.int .u16 (x : Int), .int .u16 (y : Int)] rfl rfl (rc_at _ [.int .u16 (x : Int), .int .u16 (y : Int)] _ _ rfl) (by simp [Value.oneCell']) (by unfold maxLen; omega) (by omega) (by simp; omega) ?_; intro v2 w2 hown2 hg2 _)
      all_goals
        have hb2 : Below w.heap.size w w2 := ((Below.drew hb).alloc (by simpa using hbs) _).grown hg2 (by simp; omega) (fun g hg => (hown.lt g hg).1)
        clear hown hg2 hb ca cb
        have ca := cell_keep hb2 CA.out
        have cb := cell_keep hb2 CB.out
        have hu := upd_le hc (prs xs ys k)
        have HU := Lib.hid (upd_snoc c (prs xs ys k) (x, y))
        generalize upd c (prs xs ys k) = u at *
        go_wp2
        go_quiet ((go_at_call 10; exact Calls.quiet_of_same (rupdate_any u x y _ hu hxk hyk)))
        go_wp2
        go_roundw
        case rel => exact ⟨k + 1, by omega, by go_num, by rw [HP.out, HU.out], by rw [HP.out, qcells_snoc]; exact hown2, ⟨hb2.os, hb2.tape, hb2.output, hb2.size, hb2.block⟩⟩
        case measure => simp [intOf]; omega
    · obtain rfl : k = n := by omega
      obtain ⟨A, cc, rfl, hcc⟩ : ∃ A cc, u8 = .slice A k cc ∧ RC wr A (qcells (prs xs ys k)) := by
        rcases hown.2 with ⟨e, h0⟩ | ⟨g, cap, cur, e, _⟩
        · subst h0; exact ⟨none, 0, e, by rw [prs_zero]; exact RC.nil _ _⟩
        · exact ⟨some ⟨g, 0, none⟩, cap, e, fun j u hu => ⟨_, rfl, hown.cells (g := g) (by rw [e]; rfl) j u hu⟩⟩
      have hq := RQ.mk (prs_mem xs ys k u1 u2) hcc
      have hl : Hid ((prs xs ys k).length = k) := prs_len xs ys k hx hy
      clear hown hcc
      go_wp2_with fail
      have hcall := update_any c (prs xs ys k) A cc wr hc hq (by rw [hl.out]; omega)
      rw [hl.out] at hcall
      refine hcall.mono ?_
      clear hcall
      rintro e w2 ⟨rfl, hb2⟩
      go_wp2_with fail
      refine (update_any c [] none 0 w2 hc (fun j h => by simp at h) (by simp)).mono ?_
      rintro e w3 ⟨rfl, hb3⟩
      rw [show upd c [] = c from rfl]
      go_wp2_with fail
      go_ret
      exact ⟨rfl, hb.trans ((hb2.mono hb.size).trans (hb3.mono (Nat.le_trans hb.size hb2.size)))⟩
end Go.Proofs.Ytgacikbjjdmcjaa
