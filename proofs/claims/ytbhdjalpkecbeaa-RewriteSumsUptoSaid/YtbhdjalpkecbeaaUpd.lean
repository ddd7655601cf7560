/- The walk of sum.Update. -/
import Derived.Test.YtbhdjalpkecbeaaFold
namespace Go.Proofs.Ytbhdjalpkecbeaa
set_option linter.unusedVariables false
set_option linter.unusedSimpArgs false
open Go.RowKit

theorem three (p q n : Nat) (hp : p ≤ 65535) (hq : q ≤ 65535) (hn : n ≤ 65535) :
    IntKind.u64.wrap (IntKind.u64.wrap (IntKind.u64.wrap (p : Int) + IntKind.u64.wrap (q : Int)) + (n : Int)) = ((p + q + n : Nat) : Int) := by
  rw [IntWalk.u64_in (p : Int) (by omega), IntWalk.u64_in (q : Int) (by omega), IntWalk.u64_in ((p : Int) + q) (by omega), IntWalk.u64_in ((p : Int) + q + n) (by omega)]
  omega
set_option maxHeartbeats 800000 in
theorem update_any (c0 : Nat) (ps : List (Nat × Nat)) (A : Option Addr) (c : Nat) (w : World) (h0 : c0 ≤ 65535) (hA : RQ w A ps) (hn : ps.length ≤ 4000000) :
    Calls Try.prog 12 #[.int .u16 (c0 : Int), .slice A ps.length c] w fun e w' => e = .returned (.int .u16 (upd c0 ps : Int)) ∧ Below w.heap.size w w' := by
  go_enter Try.func12, Try.ntmps12
  go_wp2
  go_loopw [0, 9] (fun s i wr => ∃ k : Nat, k ≤ ps.length ∧ i = .int .i64 (k : Int) ∧ s = .int .u16 (upd c0 (ps.take k) : Int) ∧ Below w.heap.size w wr) (fun _ i _ => ps.length - (intOf i).toNat)
  case atStart => exact ⟨0, Nat.zero_le _, rfl, rfl, Below.refl _ _⟩
  case round =>
    obtain ⟨k, hk, rfl, rfl, hb⟩ := hrel
    by_cases hlt : k < ps.length
    · obtain ⟨hp1, hp2, ad, rfl, hc1, hc2⟩ := (hA.below hb) k hlt
      have hu := upd_le h0 (ps.take k)
      have H1 := Lib.hid (upd_snoc c0 (ps.take k) ps[k])
      have H3 := Lib.hid (take_snoc ps k hlt)
      generalize upd c0 (ps.take k) = u at *
      generalize hp : ps[k] = p at *
      clear hp
      obtain ⟨o, n⟩ := p
      simp only at hp1 hp2 hc1 hc2
      have e1 := not16 u hu
      have e2 := not16 o hp1
      have hcc : ∀ j v, [Value.int .u16 (o : Int), Value.int .u16 (n : Int)][j]? = some v → wr.cell? ((ad.add (k * 2)).add j) = some v := fun j v hv => by
        rw [add_add']
        match j, hv with
        | 0, hv => simp at hv; subst hv; exact hc1
        | 1, hv => simp at hv; subst hv; exact hc2
      go_wp2_with (with_reducible refine wl_load rfl 37 (.tmp 11) rfl _ rfl _ _ hcc Try.underlying37 rfl (by kernel_rfl) ?_)
      have e3 := three (65535 - u) (65535 - o) n (by omega) (by omega) hp2
      rw [e3]
      clear e3
      refine (fold_any _ _ (by omega)).mono ?_
      rintro e w' ⟨rfl, rfl⟩
      have e4 := not16 _ (fold16_le (65535 - u + (65535 - o) + n))
      have H5 : Hid (upd1 u (o, n) = 65535 - fold16 (65535 - u + (65535 - o) + n)) := rfl
      generalize fold16 (65535 - u + (65535 - o) + n) = f at *
      go_wp2
      go_roundw
      case rel => exact ⟨k + 1, by omega, by go_num, by rw [H3.out, H1.out, H5.out], hb.alloc hb.size _⟩
      case measure => simp [intOf]; omega
    · obtain rfl : k = ps.length := by omega
      go_wp2
      go_ret
      exact ⟨by rw [List.take_length]; rfl, hb⟩

end Go.Proofs.Ytbhdjalpkecbeaa
