/- Rewritings with their rows open; packets with a side set. -/
import Derived.Test.YtbhdjalpkecbeaaRwOne
import Derived.Test.YtbhdjalpkecbeaaRefBuild
namespace Go.Proofs.Ytbhdjalpkecbeaa
set_option linter.unusedVariables false
set_option linter.unusedSimpArgs false
open Go.RowKit

theorem rbuild_n (p : Pk) (B : Option Addr) (d : Nat) (w : World) (hd : PkD w B d p) (hg : GoodP p) (hu : U32s p) :
    Calls Try.prog 25 #[pkv p B d] w fun e w' => ∃ X k, e = .returned (.tuple #[.slice X (build p).length k, .int .i64 0]) ∧ (build p).length ≤ k ∧ RB w' X (build p) ∧ Hid (w'.ownsRow w.heap.size 5 1 (.slice X (build p).length k) (build p).length ((build p).map bv)) ∧ Below w.heap.size w w' := by
  refine (rbuild_good p B d w hd hg hu).mono ?_
  rintro e w' ⟨v, rfl, hO, hb⟩
  obtain ⟨X, k, rfl, hk, hR, -⟩ := own_form hO
  exact ⟨X, k, rfl, hk, hR, hO, hb⟩
theorem dest_n (b : List UInt8) (p : Pk) (A : Option Addr) (n c : Nat) (a port : Int) (w : World) (hn : b.length = n) (hA : RB w A b) (hc : n ≤ c) (h : IsPk b p) (ha : 0 ≤ a ∧ a ≤ 4294967295) (hp : 0 ≤ port ∧ port ≤ 65535) :
    Calls Try.prog 10 #[.slice A n c, .int .u32 a, .int .i64 port] w fun e w' => ∃ X k, e = .returned (.tuple #[.slice X n k, .nilIface]) ∧ n ≤ k ∧ RB w' X (build (setDst p a port)) ∧ Hid (w'.ownsRow w.heap.size 5 1 (.slice X n k) n ((build (setDst p a port)).map bv)) ∧ Below w.heap.size w w' := by
  refine (dest_good b p A n c a port w hn hA hc h ha hp).mono ?_
  rintro e w' ⟨v, rfl, hO, hb⟩
  obtain ⟨X, k, rfl, hk, hR, -⟩ := own_form hO
  exact ⟨X, k, rfl, hk, hR, hO, hb⟩
theorem source_n (b : List UInt8) (p : Pk) (A : Option Addr) (n c : Nat) (a port : Int) (w : World) (hn : b.length = n) (hA : RB w A b) (hc : n ≤ c) (h : IsPk b p) (ha : 0 ≤ a ∧ a ≤ 4294967295) (hp : 0 ≤ port ∧ port ≤ 65535) :
    Calls Try.prog 18 #[.slice A n c, .int .u32 a, .int .i64 port] w fun e w' => ∃ X k, e = .returned (.tuple #[.slice X n k, .nilIface]) ∧ n ≤ k ∧ RB w' X (build (setSrc p a port)) ∧ Hid (w'.ownsRow w.heap.size 5 1 (.slice X n k) n ((build (setSrc p a port)).map bv)) ∧ Below w.heap.size w w' := by
  refine (source_good b p A n c a port w hn hA hc h ha hp).mono ?_
  rintro e w' ⟨v, rfl, hO, hb⟩
  obtain ⟨X, k, rfl, hk, hR, -⟩ := own_form hO
  exact ⟨X, k, rfl, hk, hR, hO, hb⟩
theorem set_len_dst (p : Pk) (a port : Int) : (build (setDst p a port)).length = (build p).length := by rw [build_len, build_len]; rfl
theorem set_len_src (p : Pk) (a port : Int) : (build (setSrc p a port)).length = (build p).length := by rw [build_len, build_len]; rfl
theorem isPk_build {p : Pk} (hg : GoodP p) (hu : U32s p) : IsPk (build p) p := ⟨hg, hu, rfl⟩
theorem isPk_dst {b : List UInt8} {p : Pk} (h : IsPk b p) {a port : Int} (ha : 0 ≤ a ∧ a ≤ 4294967295) (hp : 0 ≤ port ∧ port ≤ 65535) : IsPk (build (setDst p a port)) (setDst p a port) := by
  obtain ⟨a, rfl⟩ := Int.eq_ofNat_of_zero_le ha.1
  obtain ⟨port, rfl⟩ := Int.eq_ofNat_of_zero_le hp.1
  have h2 := setDst_good h.1 h.2.1 a port (by omega) (by omega)
  exact isPk_build h2.1 h2.2
theorem isPk_src {b : List UInt8} {p : Pk} (h : IsPk b p) {a port : Int} (ha : 0 ≤ a ∧ a ≤ 4294967295) (hp : 0 ≤ port ∧ port ≤ 65535) : IsPk (build (setSrc p a port)) (setSrc p a port) := by
  obtain ⟨a, rfl⟩ := Int.eq_ofNat_of_zero_le ha.1
  obtain ⟨port, rfl⟩ := Int.eq_ofNat_of_zero_le hp.1
  have h2 := setSrc_good h.1 h.2.1 a port (by omega) (by omega)
  exact isPk_build h2.1 h2.2
end Go.Proofs.Ytbhdjalpkecbeaa
