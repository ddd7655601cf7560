/- Lanes: their place in memory; the walks of NewLanes, Urgent, Plain, Get, Take, Len. -/
import Derived.Test.YtkgkbmiacomhdaaCho
namespace Go.Proofs.Ytkgkbmiacomhdaa
set_option linter.unusedVariables false
set_option linter.unusedSimpArgs false
open Go.RowKit Go.Conc

/-- Lanes behind a pointer. -/
structure La (w : World) (gl gu cu gp cp cap : Nat) (us vs : List Value) : Prop where
  l : Blk w gl 71 [.pointer (some ⟨gu, 0, none⟩), .pointer (some ⟨gp, 0, none⟩)]
  u : Qc w gu cu cap us
  p : Qc w gp cp cap vs
  ne : cu ≠ cp
/-- They lie from B on. -/
def LaB (B gl gu cu gp cp : Nat) : Prop := B ≤ gl ∧ B ≤ gu ∧ B ≤ cu ∧ B ≤ gp ∧ B ≤ cp
theorem La.cells {w : World} {gl gu cu gp cp cap : Nat} {us vs : List Value} (h : La w gl gu cu gp cp cap us vs) : w.cell? ⟨gl, 0, none⟩ = some (.pointer (some ⟨gu, 0, none⟩)) ∧ w.cell? ⟨gl, 1, none⟩ = some (.pointer (some ⟨gp, 0, none⟩)) ∧
    w.cell? ⟨gu, 0, none⟩ = some (.chan (some cu)) ∧ w.cell? ⟨gp, 0, none⟩ = some (.chan (some cp)) := ⟨h.l.cell 0, h.l.cell 1, h.u.1.cell 0, h.p.1.cell 0⟩
theorem blk_ne_chan {w : World} {g c cap : Nat} {t : TypeId} {cs us : List Value} (h : Blk w g t cs) (hc : Ch w c cap us) : g ≠ c := by
  obtain ⟨s, r, hc⟩ := hc
  intro e
  subst e
  unfold Blk at h
  rw [h] at hc
  cases hc
theorem La.setU {w w' : World} {gl gu cu gp cp cap : Nat} {us vs us' : List Value} (h : La w gl gu cu gp cp cap us vs) (hg : w.grownBy w' (some cu)) (hu : Qc w' gu cu cap us') : La w' gl gu cu gp cp cap us' vs :=
  ⟨h.l.grown hg (by simp; exact blk_ne_chan h.l h.u.2), hu, ⟨h.p.1.grown hg (by simp; exact blk_ne_chan h.p.1 h.u.2), h.p.2.grown hg (by simp; exact Ne.symm h.ne)⟩, h.ne⟩
theorem La.setP {w w' : World} {gl gu cu gp cp cap : Nat} {us vs vs' : List Value} (h : La w gl gu cu gp cp cap us vs) (hg : w.grownBy w' (some cp)) (hp : Qc w' gp cp cap vs') : La w' gl gu cu gp cp cap us vs' :=
  ⟨h.l.grown hg (by simp; exact blk_ne_chan h.l h.p.2), ⟨h.u.1.grown hg (by simp; exact blk_ne_chan h.u.1 h.p.2), h.u.2.grown hg (by simp; exact h.ne)⟩, hp, h.ne⟩
theorem La.kept {w w' : World} {gl gu cu gp cp cap : Nat} {us vs : List Value} (h : La w gl gu cu gp cp cap us vs) (hb : Below w.heap.size w w') : La w' gl gu cu gp cp cap us vs := ⟨h.l.kept hb, h.u.kept hb, h.p.kept hb, h.ne⟩
theorem La.fresh {w w' : World} {B gl gu cu gp cp cap : Nat} {us vs : List Value} {row : Option Nat} (h : La w gl gu cu gp cp cap us vs) (hg : w.grownBy w' row) (hl : gl < B ∧ gu < B ∧ cu < B ∧ gp < B ∧ cp < B) (hr : ∀ b, row = some b → B ≤ b) : La w' gl gu cu gp cp cap us vs :=
  ⟨h.l.grown hg (fun e => by have := hr gl e.symm; omega), h.u.fresh hg hl.2.1 hl.2.2.1 hr, h.p.fresh hg hl.2.2.2.1 hl.2.2.2.2 hr, h.ne⟩
theorem La.lt {w : World} {gl gu cu gp cp cap : Nat} {us vs : List Value} (h : La w gl gu cu gp cp cap us vs) : gl < w.heap.size ∧ gu < w.heap.size ∧ cu < w.heap.size ∧ gp < w.heap.size ∧ cp < w.heap.size := ⟨h.l.lt, h.u.1.lt, h.u.2.lt, h.p.1.lt, h.p.2.lt⟩

set_option maxHeartbeats 800000 in
theorem newl_good (n' : Int) (n : Nat) (w : World) (h : n ≤ 4096) (e : n' = (n : Int)) :
    Calls Try.prog 26 #[.int .i64 n'] w fun e w' => ∃ gl gu cu gp cp, e = .returned (.tuple #[.pointer (some ⟨gl, 0, none⟩), .nilIface]) ∧ La w' gl gu cu gp cp n [] [] ∧ LaB w.heap.size gl gu cu gp cp ∧ Below w.heap.size w w' := by
  have HE := Lib.hid e
  clear e
  go_enter Try.func26, Try.ntmps26
  go_wp2_with fail
  (with_reducible refine (new_i _ n w h HE.out).mono ?_)
  rintro e w1 ⟨rfl, hq1, hb1⟩
  have hs1 := hb1.size
  have hl1 := hq1.1.lt
  go_wp2_with fail
  (with_reducible refine (new_i _ n w1 h HE.out).mono ?_)
  rintro e w2 ⟨rfl, hq2, hb2⟩
  have hs2 := hb2.size
  go_wp2_with fail
  go_ret2
  refine ⟨_, _, w.heap.size, _, w1.heap.size, rfl, ⟨blk_new rfl, (hq1.kept hb2).alloc _, hq2.alloc _, by omega⟩, ⟨by omega, by omega, by omega, by omega, by omega⟩, below_al (below_call hb1 hb2) _⟩
set_option maxHeartbeats 800000 in
theorem newl_bad (n : Int) (w : World) (h : n < 0 ∨ 4096 < n) :
    Calls Try.prog 26 #[.int .i64 n] w fun e w' => e = .returned (.tuple #[.pointer none, er 4]) ∧ w' = w := by
  go_enter Try.func26, Try.ntmps26
  go_wp2_with fail
  (with_reducible refine (new_bad n w h).mono ?_)
  rintro e w1 ⟨rfl, rfl⟩
  go_wp2_with fail
  go_ret2
  exact ⟨rfl, rfl⟩
def LPutU (w : World) (gl gu cu gp cp cap : Nat) (us vs : List Value) (ps : List (List UInt8)) (n : Value) (wx : World) : Prop :=
  ∃ news : List Value, n = .int .i64 (news.length : Int) ∧ news.length = min ps.length (cap - us.length) ∧ La wx gl gu cu gp cp cap (us ++ news) vs ∧ Own wx w.heap.size news (ps.take news.length) ∧ w.grownBy wx (some cu)
set_option maxHeartbeats 800000 in
theorem urgent_n (gl gu cu gp cp cap m : Nat) (us vs : List Value) (ps : List (List UInt8)) (A : Option Addr) (c : Nat) (w : World) (h : La w gl gu cu gp cp cap us vs) (hv : us.length ≤ cap) (hcap : cap ≤ 4096) (hA : RP w A ps) (hm : ps.length = m) (hl : m ≤ 4000000) (hls : ∀ x ∈ ps, x.length ≤ 4000000) :
    Calls Try.prog 28 #[.pointer (some ⟨gl, 0, none⟩), .slice A m c] w fun e w' => ∃ n, e = .returned n ∧ LPutU w gl gu cu gp cp cap us vs ps n w' := by
  obtain ⟨c0, c1, c2, c3⟩ := h.cells
  have HLS := Lib.hid hls
  have HM := Lib.hid hm
  clear hls hm
  go_enter Try.func28, Try.ntmps28
  go_wp2_with fail
  (with_reducible refine (put_n gu cu cap m us ps A c w h.u hv hcap hA HM.out hl HLS.out).mono ?_)
  rintro e w1 ⟨n, rfl, hp⟩
  have HP := Lib.hid hp
  clear hp c0 c1 c2 c3
  go_wp2_with fail
  go_ret
  obtain ⟨news, e1, e2, e3, e4, e5⟩ := HP.out
  exact ⟨_, rfl, news, e1, e2, h.setU e5 e3, e4, e5⟩
def LPutP (w : World) (gl gu cu gp cp cap : Nat) (us vs : List Value) (ps : List (List UInt8)) (n : Value) (wx : World) : Prop :=
  ∃ news : List Value, n = .int .i64 (news.length : Int) ∧ news.length = min ps.length (cap - vs.length) ∧ La wx gl gu cu gp cp cap us (vs ++ news) ∧ Own wx w.heap.size news (ps.take news.length) ∧ w.grownBy wx (some cp)
set_option maxHeartbeats 800000 in
theorem plain_n (gl gu cu gp cp cap m : Nat) (us vs : List Value) (ps : List (List UInt8)) (A : Option Addr) (c : Nat) (w : World) (h : La w gl gu cu gp cp cap us vs) (hv : vs.length ≤ cap) (hcap : cap ≤ 4096) (hA : RP w A ps) (hm : ps.length = m) (hl : m ≤ 4000000) (hls : ∀ x ∈ ps, x.length ≤ 4000000) :
    Calls Try.prog 27 #[.pointer (some ⟨gl, 0, none⟩), .slice A m c] w fun e w' => ∃ n, e = .returned n ∧ LPutP w gl gu cu gp cp cap us vs ps n w' := by
  obtain ⟨c0, c1, c2, c3⟩ := h.cells
  have HLS := Lib.hid hls
  have HM := Lib.hid hm
  clear hls hm
  go_enter Try.func27, Try.ntmps27
  go_wp2_with fail
  (with_reducible refine (put_n gp cp cap m vs ps A c w h.p hv hcap hA HM.out hl HLS.out).mono ?_)
  rintro e w1 ⟨n, rfl, hp⟩
  have HP := Lib.hid hp
  clear hp c0 c1 c2 c3
  go_wp2_with fail
  go_ret
  obtain ⟨news, e1, e2, e3, e4, e5⟩ := HP.out
  exact ⟨_, rfl, news, e1, e2, h.setP e5 e3, e4, e5⟩
set_option maxHeartbeats 800000 in
theorem lget_u (gl gu cu gp cp cap : Nat) (x : Value) (us vs : List Value) (w : World) (h : La w gl gu cu gp cp cap (x :: us) vs) :
    Calls Try.prog 30 #[.pointer (some ⟨gl, 0, none⟩)] w fun e w' => e = .returned (.tuple #[x, .bool true, .bool true]) ∧ La w' gl gu cu gp cp cap us vs ∧ w.grownBy w' (some cu) := by
  obtain ⟨c0, c1, c2, c3⟩ := h.cells
  obtain ⟨s, r, hc⟩ := h.u.2
  have hcl := h.u.2.lt
  have hg := grown_chan w cu cap us.toArray s (r + 1)
  have HL : Hid (La (w.setChan cu cap us.toArray false s (r + 1) false) gl gu cu gp cp cap us vs) := h.setU hg ⟨h.u.1.grown hg (by simp; exact h.u.ne), ch_set hcl⟩
  have HG := Lib.hid hg
  clear hg
  go_enter Try.func30, Try.ntmps30
  go_upto_region 4 with (fail)
  refine wp_select_get (z := .slice none 0 0) rfl (by simp [go_sem, execOp, rcase, Act.eval]) hc ?_
  clear c0 c1 c2 c3 hc
  generalize w.setChan cu cap us.toArray false s (r + 1) false = w1 at *
  go_wp2_with fail
  go_ret3
  exact ⟨rfl, HL.out, HG.out⟩
set_option maxHeartbeats 800000 in
theorem lget_p (gl gu cu gp cp cap : Nat) (x : Value) (vs : List Value) (w : World) (h : La w gl gu cu gp cp cap [] (x :: vs)) :
    Calls Try.prog 30 #[.pointer (some ⟨gl, 0, none⟩)] w fun e w' => e = .returned (.tuple #[x, .bool false, .bool true]) ∧ La w' gl gu cu gp cp cap [] vs ∧ w.grownBy w' (some cp) := by
  obtain ⟨c0, c1, c2, c3⟩ := h.cells
  obtain ⟨s0, r0, hc0⟩ := h.u.2
  obtain ⟨s, r, hc⟩ := h.p.2
  have hcl := h.p.2.lt
  have hg := grown_chan w cp cap vs.toArray s (r + 1)
  have HL : Hid (La (w.setChan cp cap vs.toArray false s (r + 1) false) gl gu cu gp cp cap [] vs) := h.setP hg ⟨h.p.1.grown hg (by simp; exact h.p.ne), ch_set hcl⟩
  have HG := Lib.hid hg
  clear hg
  go_enter Try.func30, Try.ntmps30
  go_upto_region 4 with (fail)
  refine wp_select_none (z := .slice none 0 0) rfl (by simp [go_sem, execOp, rcase, Act.eval]) hc0 ?_
  go_upto_region 8 with (fail)
  refine wp_select_get (z := .slice none 0 0) rfl (by simp [go_sem, execOp, rcase, Act.eval]) hc ?_
  clear c0 c1 c2 c3 hc hc0
  generalize w.setChan cp cap vs.toArray false s (r + 1) false = w1 at *
  go_wp2_with fail
  go_ret3
  exact ⟨rfl, HL.out, HG.out⟩
set_option maxHeartbeats 800000 in
theorem lget_none (gl gu cu gp cp cap : Nat) (w : World) (h : La w gl gu cu gp cp cap [] []) :
    Calls Try.prog 30 #[.pointer (some ⟨gl, 0, none⟩)] w fun e w' => e = .returned (.tuple #[.slice none 0 0, .bool false, .bool false]) ∧ w' = w := by
  obtain ⟨c0, c1, c2, c3⟩ := h.cells
  obtain ⟨s0, r0, hc0⟩ := h.u.2
  obtain ⟨s, r, hc⟩ := h.p.2
  go_enter Try.func30, Try.ntmps30
  go_upto_region 4 with (fail)
  refine wp_select_none (z := .slice none 0 0) rfl (by simp [go_sem, execOp, rcase, Act.eval]) hc0 ?_
  go_upto_region 8 with (fail)
  refine wp_select_none (z := .slice none 0 0) rfl (by simp [go_sem, execOp, rcase, Act.eval]) hc ?_
  go_wp2_with fail
  go_ret3
  exact ⟨rfl, rfl⟩
/-- What taking the first does. -/
def LTook (w : World) (gl gu cu gp cp cap : Nat) (x : Value) (rest : List Value) (e : Ending) (w' : World) : Prop :=
  ∃ b us vs, e = .returned (.tuple #[x, .bool b, .bool true]) ∧ La w' gl gu cu gp cp cap us vs ∧ us ++ vs = rest ∧ w.grownBy w' (some (if b then cu else cp))
theorem lget_some (gl gu cu gp cp cap : Nat) (x : Value) (us vs rest : List Value) (w : World) (h : La w gl gu cu gp cp cap us vs) (he : us ++ vs = x :: rest) :
    Calls Try.prog 30 #[.pointer (some ⟨gl, 0, none⟩)] w (LTook w gl gu cu gp cp cap x rest) := by
  cases us with
  | cons y us =>
    simp only [List.cons_append, List.cons.injEq] at he
    obtain ⟨rfl, he⟩ := he
    exact (lget_u gl gu cu gp cp cap y us vs w h).mono fun e w' ⟨e1, e2, e3⟩ => ⟨true, us, vs, e1, e2, he, e3⟩
  | nil =>
    simp only [List.nil_append] at he
    subst he
    exact (lget_p gl gu cu gp cp cap x rest w h).mono fun e w' ⟨e1, e2, e3⟩ => ⟨false, [], rest, e1, e2, rfl, e3⟩
set_option maxHeartbeats 800000 in
theorem llen_any (gl gu cu gp cp cap : Nat) (us vs : List Value) (w : World) (h : La w gl gu cu gp cp cap us vs) (h1 : us.length + vs.length ≤ 4000000) :
    Calls Try.prog 31 #[.pointer (some ⟨gl, 0, none⟩)] w fun e w' => e = .returned (.int .i64 ((us.length + vs.length : Nat) : Int)) ∧ ∃ k, w' = w.drewN k := by
  obtain ⟨c0, c1, c2, c3⟩ := h.cells
  have e : IntKind.i64.wrap ((us.length : Int) + (vs.length : Int)) = ((us.length + vs.length : Nat) : Int) := by rw [IntWalk.i64_in _ (by omega)]; omega
  go_enter Try.func31, Try.ntmps31
  go_wp2_with fail
  have hu : ∀ k, Qc (w.drewN k) gu cu cap us := fun k => h.u
  have hp : ∀ k, Qc (w.drewN k) gp cp cap vs := fun k => h.p
  go_quiet ((go_at_call 22; (first | (with_reducible exact Calls.quiet_of_same (len_any gu cu cap us _ (hu _))) | (with_reducible exact Calls.quiet_of_same (len_any gp cp cap vs _ (hp _))))))
  go_wp2
  go_ret
  exact ⟨rfl, _, rfl⟩
end Go.Proofs.Ytkgkbmiacomhdaa
