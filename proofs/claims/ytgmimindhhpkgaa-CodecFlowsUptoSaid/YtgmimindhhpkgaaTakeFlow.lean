/- The walks of the two TakeFlow and the two Flow of numbers. -/
import Derived.Test.YtgmimindhhpkgaaFlow
import Derived.Test.YtgmimindhhpkgaaAlive06
import Derived.Deep.RegionHeld3
import Derived.Outline
namespace Go.Proofs.Ytgmimindhhpkgaa
set_option linter.unusedVariables false
set_option linter.unusedSimpArgs false
open Go.RowKit

/-- The flow of numbers and those behind. -/
def IsTf (ns : List Int) (f : Fl) (rest : List Int) : Prop := ns = f.proto :: f.src :: f.sp :: f.dst :: f.dp :: rest ∧ (0 ≤ f.src ∧ f.src ≤ 4294967295) ∧ (0 ≤ f.dst ∧ f.dst ≤ 4294967295) ∧ GoodF f
/-- What stands in numbers that are no flow's. -/
theorem tf_not {ns : List Int} (h : ∀ f rest, ¬ IsTf ns f rest) : ns.length < 5 ∨ ∃ p s sp d dp rest, ns = p :: s :: sp :: d :: dp :: rest ∧
    (s < 0 ∨ 4294967295 < s ∨ ((0 ≤ s ∧ s ≤ 4294967295) ∧ d < 0) ∨ ((0 ≤ s ∧ s ≤ 4294967295) ∧ 4294967295 < d) ∨ ((0 ≤ s ∧ s ≤ 4294967295) ∧ (0 ≤ d ∧ d ≤ 4294967295) ∧ ¬ GoodF ⟨p, s, sp, d, dp⟩)) := by
  match ns with
  | [] => exact .inl (by simp)
  | [_] => exact .inl (by simp)
  | [_, _] => exact .inl (by simp)
  | [_, _, _] => exact .inl (by simp)
  | [_, _, _, _] => exact .inl (by simp)
  | p :: s :: sp :: d :: dp :: rest =>
    refine .inr ⟨p, s, sp, d, dp, rest, rfl, ?_⟩
    have h1 := h ⟨p, s, sp, d, dp⟩ rest
    by_cases hg : GoodF ⟨p, s, sp, d, dp⟩
    · have h2 : ¬ ((0 ≤ s ∧ s ≤ 4294967295) ∧ (0 ≤ d ∧ d ≤ 4294967295)) := fun h3 => h1 ⟨rfl, h3.1, h3.2, hg⟩
      omega
    · by_cases h3 : (0 ≤ s ∧ s ≤ 4294967295) ∧ (0 ≤ d ∧ d ≤ 4294967295)
      · exact .inr (.inr (.inr (.inr ⟨h3.1, h3.2, hg⟩)))
      · omega
theorem five {w : World} {A : Option Addr} {p s sp d dp : Int} {rest : List Int} (h : RC w A ((p :: s :: sp :: d :: dp :: rest).map iv)) :
    ∃ ad : Addr, A = some ad ∧ w.cell? ad = some (iv p) ∧ w.cell? ⟨ad.block, ad.off + 1, none⟩ = some (iv s) ∧ w.cell? ⟨ad.block, ad.off + 2, none⟩ = some (iv sp) ∧ w.cell? ⟨ad.block, ad.off + 3, none⟩ = some (iv d) ∧ w.cell? ⟨ad.block, ad.off + 4, none⟩ = some (iv dp) := by
  obtain ⟨ad, rfl, h0⟩ := h 0 (iv p) rfl
  have q : ∀ j u, 0 < j → ((p :: s :: sp :: d :: dp :: rest).map iv)[j]? = some u → w.cell? ⟨ad.block, ad.off + j, none⟩ = some u := fun j u hj hu => by
    obtain ⟨ad', e, hc⟩ := h j u hu
    injection e with e
    subst e
    rw [add_pos' ad j hj] at hc
    exact hc
  refine ⟨ad, rfl, ?_, q 1 _ (by omega) rfl, q 2 _ (by omega) rfl, q 3 _ (by omega) rfl, q 4 _ (by omega) rfl⟩
  rw [show ad.add 0 = ad from rfl] at h0
  exact h0
theorem u32w (s : Int) (h0 : 0 ≤ s) (h : s ≤ 4294967295) : IntKind.u32.wrap s = s := IntWalk.u32_in s (by omega)

set_option maxHeartbeats 400000 in
theorem adr_yes (n : Int) (w : World) (h0 : 0 ≤ n) (h1 : n ≤ 4294967295) : Calls Try.prog 41 #[.int .i64 n] w fun e w' => e = .returned (.bool true) ∧ w = w' := by
  have h2 : n < 4294967296 := by omega
  go_enter Try.func41, Try.ntmps41
  go_wp2
  go_ret
  exact ⟨by simp, rfl⟩
/-- No flow. -/
abbrev fl0 : Fl := ⟨0, 0, 0, 0, 0⟩
section
variable {P : Program} {fn : Func}
/-- Three results of which the first lies in a block of its own. -/
theorem results_cellT3 {p u v : Tmp} {ty : TypeId} (h : fn.results = #[.cell p ty, .tmp u, .tmp v]) (tmps : Array Value) (w : World) (g : Nat) (t : TypeId) (cs : List Value) (d : TypeDesc)
    (hp : tmps.getD p undef = .pointer (some ⟨g, 0, none⟩)) (hg : Blk w g t cs) (hu : P.underlying ty = some d) (hd : (match d with | .struct _ | .array _ _ => true | _ => false) = true) (hi : (P.info? ty).map (·.size) = some cs.length) :
    (results fn tmps).run P w = .ok (.tuple #[.agg cs.toArray, tmps.getD u undef, tmps.getD v undef]) w := by
  have hp' : tmps[p]?.getD undef = .pointer (some ⟨g, 0, none⟩) := by simpa using hp
  have hl := run_loadVar_row (P := P) w g t ty cs.toArray (0, 0) d hg hu hd (by simpa using hi)
  simp [results, h, hp', asAddr, hl]
end
theorem flow_set {w : World} {g : Nat} {t : TypeId} {f f' : Fl} (h : Blk w g t (flc f)) :
    Blk (((((w.setCell ⟨g, 0, none⟩ (.int .i64 f'.proto)).setCell ⟨g, 1, none⟩ (.int .u32 f'.src)).setCell ⟨g, 2, none⟩ (.int .i64 f'.sp)).setCell ⟨g, 3, none⟩ (.int .u32 f'.dst)).setCell ⟨g, 4, none⟩ (.int .i64 f'.dp)) g t (flc f') := by
  have h1 := ((((h.set_ 0 (.int .i64 f'.proto)).set_ 1 (.int .u32 f'.src)).set_ 2 (.int .i64 f'.sp)).set_ 3 (.int .u32 f'.dst)).set_ 4 (.int .i64 f'.dp)
  simpa using h1
theorem flow_setB {a w : World} {g : Nat} {x0 x1 x2 x3 x4 : Value} (h : Below a.heap.size a w) (hg : a.heap.size ≤ g) :
    Below a.heap.size a (((((w.setCell ⟨g, 0, none⟩ x0).setCell ⟨g, 1, none⟩ x1).setCell ⟨g, 2, none⟩ x2).setCell ⟨g, 3, none⟩ x3).setCell ⟨g, 4, none⟩ x4) :=
  ((((h.setCell hg _).setCell hg _).setCell hg _).setCell hg _).setCell hg _
theorem flow_far {w : World} {g b : Nat} {t : TypeId} {cs : List Value} {x0 x1 x2 x3 x4 : Value} (hne : g ≠ b) (h : Blk w g t cs) :
    Blk (((((w.setCell ⟨b, 0, none⟩ x0).setCell ⟨b, 1, none⟩ x1).setCell ⟨b, 2, none⟩ x2).setCell ⟨b, 3, none⟩ x3).setCell ⟨b, 4, none⟩ x4) g t cs := ((((h.far hne _).far hne _).far hne _).far hne _).far hne _
theorem blk5 {w : World} {g : Nat} {t : TypeId} {a b c d e : Value} (h : Blk w g t [a, b, c, d, e]) : w.cell? ⟨g, 0, none⟩ = some a ∧ w.cell? ⟨g, 1, none⟩ = some b ∧ w.cell? ⟨g, 2, none⟩ = some c ∧ w.cell? ⟨g, 3, none⟩ = some d ∧ w.cell? ⟨g, 4, none⟩ = some e :=
  ⟨h.cell 0, h.cell 1, h.cell 2, h.cell 3, h.cell 4⟩

set_option maxHeartbeats 3200000 in
theorem takeflow_bad (ns : List Int) (A : Option Addr) (c : Nat) (w : World) (hA : RC w A (ns.map iv)) (hc : ns.length ≤ c) (hn : ns.length ≤ 2000000) (h : ∀ f rest, ¬ IsTf ns f rest) :
    Calls Try.prog 26 #[.slice A ns.length c] w fun e w' => e = .returned (.tuple #[flv fl0, .slice none 0 0, er 3]) ∧ Below w.heap.size w w' := by
  have hb1 : Below w.heap.size w (w.alloc (.cells #[.int .i64 0, .int .u32 0, .int .i64 0, .int .u32 0, .int .i64 0] 56)) := (Below.refl _ w).alloc (Nat.le_refl _) _
  have hG : Blk (w.alloc (.cells #[.int .i64 0, .int .u32 0, .int .i64 0, .int .u32 0, .int .i64 0] 56)) w.heap.size 56 (flc fl0) := Blk.new w _ _
  rcases tf_not h with hb | ⟨p, s, sp, d, dp, rest, rfl, hb⟩
  · clear h
    go_enter Try.func26, Try.ntmps26
    go_wp2_with fail
    exact bodyPost_ret (results_cellT3 rfl _ _ w.heap.size 56 (flc fl0) _ rfl hG Try.underlying56 rfl (by kernel_rfl)) rfl ⟨rfl, hb1⟩
  · clear h
    obtain ⟨ad, rfl, c0, c1, c2, c3, c4⟩ := five hA
    have c0' := cell_keep hb1 c0
    have c1' := cell_keep hb1 c1
    have c2' := cell_keep hb1 c2
    have c3' := cell_keep hb1 c3
    have c4' := cell_keep hb1 c4
    clear c0 c1 c2 c3 c4
    have hl5 : 5 ≤ (p :: s :: sp :: d :: dp :: rest).length := by simp
    generalize (p :: s :: sp :: d :: dp :: rest).length = n at *
    rcases hb with hb | hb | ⟨⟨h1, h2⟩, h3⟩ | ⟨⟨h1, h2⟩, h3⟩ | ⟨⟨h1, h2⟩, ⟨h3, h4⟩, h5⟩
    · go_enter Try.func26, Try.ntmps26
      go_wp2
      exact bodyPost_ret (results_cellT3 rfl _ _ w.heap.size 56 (flc fl0) _ rfl hG Try.underlying56 rfl (by kernel_rfl)) rfl ⟨rfl, hb1⟩
    · have q1 : decide (s < 4294967296) = false := decide_eq_false (by omega)
      go_enter Try.func26, Try.ntmps26
      go_wp2
      exact bodyPost_ret (results_cellT3 rfl _ _ w.heap.size 56 (flc fl0) _ rfl hG Try.underlying56 rfl (by kernel_rfl)) rfl ⟨rfl, hb1⟩
    · go_enter Try.func26, Try.ntmps26
      go_wp2
      exact bodyPost_ret (results_cellT3 rfl _ _ w.heap.size 56 (flc fl0) _ rfl hG Try.underlying56 rfl (by kernel_rfl)) rfl ⟨rfl, hb1⟩
    · have q1 : decide (d < 4294967296) = false := decide_eq_false (by omega)
      go_enter Try.func26, Try.ntmps26
      go_wp2
      exact bodyPost_ret (results_cellT3 rfl _ _ w.heap.size 56 (flc fl0) _ rfl hG Try.underlying56 rfl (by kernel_rfl)) rfl ⟨rfl, hb1⟩
    · have q1 := u32w s h1 h2
      have q2 := u32w d h3 h4
      go_enter Try.func26, Try.ntmps26
      go_upto_region 4 with ((go_at_call 41; refine (adr_yes _ _ (by omega) (by omega)).mono ?_; rintro e w' ⟨rfl, rfl⟩))
      generalize w.alloc (.cells #[.int .i64 0, .int .u32 0, .int .i64 0, .int .u32 0, .int .i64 0] 56) = wa at *
      have hl5' : ¬ (n : Int) < 5 := by omega
      have i5 : (5 : Int) ≤ (n : Int) := by omega
      have j0 : 0 < n := by omega
      have j1 : (1 : Int) < (n : Int) := by omega
      have j2 : (2 : Int) < (n : Int) := by omega
      have j3 : (3 : Int) < (n : Int) := by omega
      have j4 : (4 : Int) < (n : Int) := by omega
      have n0 := World.new_ne wa _ c0'
      have n1 := World.new_ne wa _ c1'
      have n2 := World.new_ne wa _ c2'
      have n3 := World.new_ne wa _ c3'
      have n4 := World.new_ne wa _ c4'
      go_region_held3 (fun w' => w'.cell? ad = some (iv p) ∧ w'.cell? ⟨ad.block, ad.off + 1, none⟩ = some (iv s) ∧ w'.cell? ⟨ad.block, ad.off + 2, none⟩ = some (iv sp) ∧ w'.cell? ⟨ad.block, ad.off + 3, none⟩ = some (iv d) ∧ w'.cell? ⟨ad.block, ad.off + 4, none⟩ = some (iv dp)) (go_keep) (fail)
      have hb2 := Below.drew (below_al hb1 (.cells #[.int .i64 p, .int .u32 s, .int .i64 sp, .int .u32 d, .int .i64 dp] 56))
      have hF : Blk (wa.alloc (.cells #[.int .i64 p, .int .u32 s, .int .i64 sp, .int .u32 d, .int .i64 dp] 56)).drew wa.heap.size 56 (flc ⟨p, s, sp, d, dp⟩) := Blk.new wa _ _
      have hG2 : Blk (wa.alloc (.cells #[.int .i64 p, .int .u32 s, .int .i64 sp, .int .u32 d, .int .i64 dp] 56)).drew w.heap.size 56 (flc fl0) := hG.alloc _
      go_upto_region 5 with (fail)
      generalize (wa.alloc (.cells #[.int .i64 p, .int .u32 s, .int .i64 sp, .int .u32 d, .int .i64 dp] 56)).drew = wb at *
      generalize wa.heap.size = g1 at *
      obtain ⟨cF0, cF1, cF2, cF3, cF4⟩ := blk5 hF
      go_wp2_with fail
      (with_reducible refine (acheck_bad ⟨p, s, sp, d, dp⟩ wb h5).mono ?_)
      rintro e w3 ⟨rfl, hb3⟩
      have hG3 := hG2.kept hb3
      have hb3' := below_call hb2 hb3
      clear hG2 hF hb3 hG hb1 hb2 cF0 cF1 cF2 cF3 cF4
      obtain ⟨cG0, cG1, cG2, cG3, cG4⟩ := blk5 hG3
      have fG0 := hG3.frozen 0
      have fG1 := hG3.frozen 1
      have fG2 := hG3.frozen 2
      have fG3 := hG3.frozen 3
      have fG4 := hG3.frozen 4
      go_wp2_with fail
      exact bodyPost_ret (results_cellT3 rfl _ _ w.heap.size 56 (flc fl0) _ rfl (flow_set (f' := fl0) hG3) Try.underlying56 rfl (by kernel_rfl)) rfl ⟨rfl, flow_setB hb3' (Nat.le_refl _)⟩

end Go.Proofs.Ytgmimindhhpkgaa
