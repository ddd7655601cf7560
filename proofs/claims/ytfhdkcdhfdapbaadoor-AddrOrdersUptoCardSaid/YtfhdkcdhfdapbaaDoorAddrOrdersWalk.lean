/- The walk of AddrOrders. -/
import Derived.Test.YtfhdkcdhfdapbaaDoorAdLessW
import Derived.Test.YtfhdkcdhfdapbaaDoorFlowOpen
import Derived.Deep.CutBlock
import Derived.Deep.DeepCutAuto
namespace Go.Proofs.YtfhdkcdhfdapbaaDoor
set_option linter.unusedVariables false
set_option linter.unusedSimpArgs false
open Go.RowKit Go.Sort

theorem less_v (f g : Fl) (b : Bool) (w : World) (h : lessB f g = b) : Calls Tryd.prog 26 #[flv f, flv g] w fun e w' => e = .returned (.bool b) ∧ Below w.heap.size w w' := by
  rw [← h]; exact less_any f g w
theorem reverse_back (f : Fl) (w : World) : Calls Tryd.prog 27 #[flv (rev f)] w fun e w' => e = .returned (flv f) ∧ Below w.heap.size w w' := reverse_any (rev f) w
theorem less_ff (f : Fl) : lessB f f = false := by unfold lessB lessP; exact decide_eq_false (by omega)
theorem fl_ext {f g : Fl} (h1 : f.proto = g.proto) (h2 : f.src = g.src) (h3 : f.sp = g.sp) (h4 : f.dst = g.dst) (h5 : f.dp = g.dp) : f = g := by
  obtain ⟨a, b, c, d, e⟩ := f
  obtain ⟨a', b', c', d', e'⟩ := g
  simp only at h1 h2 h3 h4 h5
  subst h1 h2 h3 h4 h5
  rfl
theorem less_three (f g : Fl) : (lessB f g = true ∧ lessB g f = false ∧ flB f g = false) ∨ (lessB f g = false ∧ lessB g f = true ∧ flB f g = false) ∨ (lessB f g = false ∧ flB f g = true) := by
  have hne : ∀ {a b : Fl}, a ≠ b → flB a b = false := fun {a b} h => by
    cases hb : flB a b with
    | false => rfl
    | true => exact absurd ((flB_iff a b).1 hb) h
  by_cases h1 : lessP f g
  · refine .inl ⟨decide_eq_true h1, decide_eq_false (fun h2 => ?_), hne (fun e => ?_)⟩
    · unfold lessP at h1 h2; omega
    · subst e; unfold lessP at h1; omega
  · by_cases h2 : lessP g f
    · refine .inr (.inl ⟨decide_eq_false h1, decide_eq_true h2, hne (fun e => ?_)⟩)
      subst e; exact h1 h2
    · refine .inr (.inr ⟨decide_eq_false h1, (flB_iff f g).2 ?_⟩)
      unfold lessP at h1 h2
      exact fl_ext (by omega) (by omega) (by omega) (by omega) (by omega)
theorem less_trans {f g h : Fl} (h1 : lessB f g = true) (h2 : lessB g h = true) : lessB f h = true := by
  have a := of_decide_eq_true h1
  have b := of_decide_eq_true h2
  refine decide_eq_true ?_
  unfold lessP at *
  omega
theorem good_rev (f : Fl) : GoodF (rev f) ↔ GoodF f := by unfold GoodF; simp only [rev]; omega
def Bs (W : World) (n : Nat) (f g h : Fl) : Prop := Blk W n 53 (flc f) ∧ Blk W (n + 1) 53 (flc g) ∧ Blk W (n + 2) 53 (flc h)
theorem Bs.kept {W W' : World} {n : Nat} {f g h : Fl} (hs : Bs W n f g h) (hb : Below W.heap.size W W') : Bs W' n f g h := ⟨hs.1.kept hb, hs.2.1.kept hb, hs.2.2.kept hb⟩
set_option maxRecDepth 100000 in
set_option maxHeartbeats 6400000 in
theorem AddrOrders_walk (f g h : Fl) (w : World) (hG : Gd w) :
    Calls Tryd.prog 7 #[flv f, flv g, flv h] w fun e w' => e = .returned (.bool true) ∧ Below w.heap.size w w' := by
  have hal : Below w.heap.size w (((w.alloc (.cells #[.int .i64 f.proto, .int .u32 f.src, .int .i64 f.sp, .int .u32 f.dst, .int .i64 f.dp] 53)).alloc (.cells #[.int .i64 g.proto, .int .u32 g.src, .int .i64 g.sp, .int .u32 g.dst, .int .i64 g.dp] 53)).alloc (.cells #[.int .i64 h.proto, .int .u32 h.src, .int .i64 h.sp, .int .u32 h.dst, .int .i64 h.dp] 53)) := below_al (below_al (below_al (Below.refl _ w) _) _) _
  have hS : Bs (((w.alloc (.cells #[.int .i64 f.proto, .int .u32 f.src, .int .i64 f.sp, .int .u32 f.dst, .int .i64 f.dp] 53)).alloc (.cells #[.int .i64 g.proto, .int .u32 g.src, .int .i64 g.sp, .int .u32 g.dst, .int .i64 g.dp] 53)).alloc (.cells #[.int .i64 h.proto, .int .u32 h.src, .int .i64 h.sp, .int .u32 h.dst, .int .i64 h.dp] 53)) w.heap.size f g h := ⟨((Blk.new w _ _).alloc _).alloc _, (Blk.alloc (blk_new (by simp)) _), blk_new (by simp)⟩
  go_enter Tryd.func7, Tryd.ntmps7
  go_upto_region 1 with (fail)
  generalize (((w.alloc (.cells #[.int .i64 f.proto, .int .u32 f.src, .int .i64 f.sp, .int .u32 f.dst, .int .i64 f.dp] 53)).alloc (.cells #[.int .i64 g.proto, .int .u32 g.src, .int .i64 g.sp, .int .u32 g.dst, .int .i64 g.dp] 53)).alloc (.cells #[.int .i64 h.proto, .int .u32 h.src, .int .i64 h.sp, .int .u32 h.dst, .int .i64 h.dp] 53)) = wa at *
  go_wp2_with fail
  (with_reducible refine (alive_any wa (hG.below hal)).mono ?_)
  rintro e w1 ⟨rfl, hb1⟩
  have hbw1 := below_call hal hb1
  have hS1 := hS.kept hb1
  have q1 := fun W => fl_neq W f g
  have q2 := fun W => fl_eql W f f
  have q3 : flB f f = true := (flB_iff f f).2 rfl
  have HFF := Lib.hid (less_ff f)
  clear hS hb1 hal
  go_upto_region 3 with (fail)
  go_cut [38] (fun v wx => v = .bool false ∧ Hid (Below w1.heap.size w1 wx))
  case first =>
    have hS := hS1
    have hbl := Lib.hid (Below.refl w1.heap.size w1)
    obtain ⟨x0, x1, x2, x3, x4⟩ := blk5 hS.1
    obtain ⟨y0, y1, y2, y3, y4⟩ := blk5 hS.2.1
    obtain ⟨z0, z1, z2, z3, z4⟩ := blk5 hS.2.2
    rcases less_three f g with ⟨h1, h2, h3⟩ | ⟨h1, h2, h3⟩ | ⟨h1, h3⟩
    · have H1 := Lib.hid h1
      have H2 := Lib.hid h2
      clear h1 h2
      go_wp2_with fail
      (with_reducible refine (less_v f f false w1 HFF.out).mono ?_)
      rintro e v1 ⟨rfl, hbn⟩
      replace hS := hS.kept hbn
      replace hbl := Lib.hid (below_call hbl.out hbn)
      clear hbn x0 x1 x2 x3 x4 y0 y1 y2 y3 y4 z0 z1 z2 z3 z4
      obtain ⟨x0, x1, x2, x3, x4⟩ := blk5 hS.1
      obtain ⟨y0, y1, y2, y3, y4⟩ := blk5 hS.2.1
      obtain ⟨z0, z1, z2, z3, z4⟩ := blk5 hS.2.2
      go_wp2_with fail
      (with_reducible refine (less_v f g true v1 H1.out).mono ?_)
      rintro e v2 ⟨rfl, hbn⟩
      replace hS := hS.kept hbn
      replace hbl := Lib.hid (below_call hbl.out hbn)
      clear hbn x0 x1 x2 x3 x4 y0 y1 y2 y3 y4 z0 z1 z2 z3 z4
      obtain ⟨x0, x1, x2, x3, x4⟩ := blk5 hS.1
      obtain ⟨y0, y1, y2, y3, y4⟩ := blk5 hS.2.1
      obtain ⟨z0, z1, z2, z3, z4⟩ := blk5 hS.2.2
      go_wp2_with fail
      (with_reducible refine (less_v g f false v2 H2.out).mono ?_)
      rintro e v3 ⟨rfl, hbn⟩
      replace hS := hS.kept hbn
      replace hbl := Lib.hid (below_call hbl.out hbn)
      clear hbn x0 x1 x2 x3 x4 y0 y1 y2 y3 y4 z0 z1 z2 z3 z4
      obtain ⟨x0, x1, x2, x3, x4⟩ := blk5 hS.1
      obtain ⟨y0, y1, y2, y3, y4⟩ := blk5 hS.2.1
      obtain ⟨z0, z1, z2, z3, z4⟩ := blk5 hS.2.2
      go_wp2_with fail
      (with_reducible refine (less_v f g true v3 H1.out).mono ?_)
      rintro e v4 ⟨rfl, hbn⟩
      replace hS := hS.kept hbn
      replace hbl := Lib.hid (below_call hbl.out hbn)
      clear hbn x0 x1 x2 x3 x4 y0 y1 y2 y3 y4 z0 z1 z2 z3 z4
      obtain ⟨x0, x1, x2, x3, x4⟩ := blk5 hS.1
      obtain ⟨y0, y1, y2, y3, y4⟩ := blk5 hS.2.1
      obtain ⟨z0, z1, z2, z3, z4⟩ := blk5 hS.2.2
      go_wp2_with fail
      go_meet
      exact ⟨rfl, hbl⟩
    · have H1 := Lib.hid h1
      have H2 := Lib.hid h2
      clear h1 h2
      go_wp2_with fail
      (with_reducible refine (less_v f f false w1 HFF.out).mono ?_)
      rintro e v5 ⟨rfl, hbn⟩
      replace hS := hS.kept hbn
      replace hbl := Lib.hid (below_call hbl.out hbn)
      clear hbn x0 x1 x2 x3 x4 y0 y1 y2 y3 y4 z0 z1 z2 z3 z4
      obtain ⟨x0, x1, x2, x3, x4⟩ := blk5 hS.1
      obtain ⟨y0, y1, y2, y3, y4⟩ := blk5 hS.2.1
      obtain ⟨z0, z1, z2, z3, z4⟩ := blk5 hS.2.2
      go_wp2_with fail
      (with_reducible refine (less_v f g false v5 H1.out).mono ?_)
      rintro e v6 ⟨rfl, hbn⟩
      replace hS := hS.kept hbn
      replace hbl := Lib.hid (below_call hbl.out hbn)
      clear hbn x0 x1 x2 x3 x4 y0 y1 y2 y3 y4 z0 z1 z2 z3 z4
      obtain ⟨x0, x1, x2, x3, x4⟩ := blk5 hS.1
      obtain ⟨y0, y1, y2, y3, y4⟩ := blk5 hS.2.1
      obtain ⟨z0, z1, z2, z3, z4⟩ := blk5 hS.2.2
      go_wp2_with fail
      (with_reducible refine (less_v f g false v6 H1.out).mono ?_)
      rintro e v7 ⟨rfl, hbn⟩
      replace hS := hS.kept hbn
      replace hbl := Lib.hid (below_call hbl.out hbn)
      clear hbn x0 x1 x2 x3 x4 y0 y1 y2 y3 y4 z0 z1 z2 z3 z4
      obtain ⟨x0, x1, x2, x3, x4⟩ := blk5 hS.1
      obtain ⟨y0, y1, y2, y3, y4⟩ := blk5 hS.2.1
      obtain ⟨z0, z1, z2, z3, z4⟩ := blk5 hS.2.2
      go_wp2_with fail
      (with_reducible refine (less_v g f true v7 H2.out).mono ?_)
      rintro e v8 ⟨rfl, hbn⟩
      replace hS := hS.kept hbn
      replace hbl := Lib.hid (below_call hbl.out hbn)
      clear hbn x0 x1 x2 x3 x4 y0 y1 y2 y3 y4 z0 z1 z2 z3 z4
      obtain ⟨x0, x1, x2, x3, x4⟩ := blk5 hS.1
      obtain ⟨y0, y1, y2, y3, y4⟩ := blk5 hS.2.1
      obtain ⟨z0, z1, z2, z3, z4⟩ := blk5 hS.2.2
      go_wp2_with fail
      go_meet
      exact ⟨rfl, hbl⟩
    · have H1 := Lib.hid h1
      clear h1
      go_wp2_with fail
      (with_reducible refine (less_v f f false w1 HFF.out).mono ?_)
      rintro e v9 ⟨rfl, hbn⟩
      replace hS := hS.kept hbn
      replace hbl := Lib.hid (below_call hbl.out hbn)
      clear hbn x0 x1 x2 x3 x4 y0 y1 y2 y3 y4 z0 z1 z2 z3 z4
      obtain ⟨x0, x1, x2, x3, x4⟩ := blk5 hS.1
      obtain ⟨y0, y1, y2, y3, y4⟩ := blk5 hS.2.1
      obtain ⟨z0, z1, z2, z3, z4⟩ := blk5 hS.2.2
      go_wp2_with fail
      (with_reducible refine (less_v f g false v9 H1.out).mono ?_)
      rintro e v10 ⟨rfl, hbn⟩
      replace hS := hS.kept hbn
      replace hbl := Lib.hid (below_call hbl.out hbn)
      clear hbn x0 x1 x2 x3 x4 y0 y1 y2 y3 y4 z0 z1 z2 z3 z4
      obtain ⟨x0, x1, x2, x3, x4⟩ := blk5 hS.1
      obtain ⟨y0, y1, y2, y3, y4⟩ := blk5 hS.2.1
      obtain ⟨z0, z1, z2, z3, z4⟩ := blk5 hS.2.2
      go_wp2_with fail
      go_meet
      exact ⟨rfl, hbl⟩
  case rest =>
    obtain ⟨w2, rfl⟩ : ∃ x, x = wc := ⟨_, rfl⟩
    obtain ⟨rfl, hb2⟩ := hcut
    have hS2 := hS1.kept hb2.out
    have hbw2 := below_call hbw1 hb2.out
    go_upto_region 5 with (fail)
    go_cut [52] (fun v wx => v = .bool false ∧ Hid (Below w2.heap.size w2 wx))
    case first =>
      have hS := hS2
      have hbl := Lib.hid (Below.refl w2.heap.size w2)
      obtain ⟨x0, x1, x2, x3, x4⟩ := blk5 hS.1
      obtain ⟨y0, y1, y2, y3, y4⟩ := blk5 hS.2.1
      obtain ⟨z0, z1, z2, z3, z4⟩ := blk5 hS.2.2
      cases h1 : lessB f g with
      | true =>
        have H1 := Lib.hid h1
        cases h3 : lessB g h with
        | true =>
          have H3 := Lib.hid h3
          have H4 := Lib.hid (less_trans h1 h3)
          clear h1 h3
          go_wp2_with fail
          (with_reducible refine (less_v f g true w2 H1.out).mono ?_)
          rintro e v11 ⟨rfl, hbn⟩
          replace hS := hS.kept hbn
          replace hbl := Lib.hid (below_call hbl.out hbn)
          clear hbn x0 x1 x2 x3 x4 y0 y1 y2 y3 y4 z0 z1 z2 z3 z4
          obtain ⟨x0, x1, x2, x3, x4⟩ := blk5 hS.1
          obtain ⟨y0, y1, y2, y3, y4⟩ := blk5 hS.2.1
          obtain ⟨z0, z1, z2, z3, z4⟩ := blk5 hS.2.2
          go_wp2_with fail
          (with_reducible refine (less_v g h true v11 H3.out).mono ?_)
          rintro e v12 ⟨rfl, hbn⟩
          replace hS := hS.kept hbn
          replace hbl := Lib.hid (below_call hbl.out hbn)
          clear hbn x0 x1 x2 x3 x4 y0 y1 y2 y3 y4 z0 z1 z2 z3 z4
          obtain ⟨x0, x1, x2, x3, x4⟩ := blk5 hS.1
          obtain ⟨y0, y1, y2, y3, y4⟩ := blk5 hS.2.1
          obtain ⟨z0, z1, z2, z3, z4⟩ := blk5 hS.2.2
          go_wp2_with fail
          (with_reducible refine (less_v f h true v12 H4.out).mono ?_)
          rintro e v13 ⟨rfl, hbn⟩
          replace hS := hS.kept hbn
          replace hbl := Lib.hid (below_call hbl.out hbn)
          clear hbn x0 x1 x2 x3 x4 y0 y1 y2 y3 y4 z0 z1 z2 z3 z4
          obtain ⟨x0, x1, x2, x3, x4⟩ := blk5 hS.1
          obtain ⟨y0, y1, y2, y3, y4⟩ := blk5 hS.2.1
          obtain ⟨z0, z1, z2, z3, z4⟩ := blk5 hS.2.2
          go_wp2_with fail
          go_meet
          exact ⟨rfl, hbl⟩
        | false =>
          have H3 := Lib.hid h3
          clear h1 h3
          go_wp2_with fail
          (with_reducible refine (less_v f g true w2 H1.out).mono ?_)
          rintro e v14 ⟨rfl, hbn⟩
          replace hS := hS.kept hbn
          replace hbl := Lib.hid (below_call hbl.out hbn)
          clear hbn x0 x1 x2 x3 x4 y0 y1 y2 y3 y4 z0 z1 z2 z3 z4
          obtain ⟨x0, x1, x2, x3, x4⟩ := blk5 hS.1
          obtain ⟨y0, y1, y2, y3, y4⟩ := blk5 hS.2.1
          obtain ⟨z0, z1, z2, z3, z4⟩ := blk5 hS.2.2
          go_wp2_with fail
          (with_reducible refine (less_v g h false v14 H3.out).mono ?_)
          rintro e v15 ⟨rfl, hbn⟩
          replace hS := hS.kept hbn
          replace hbl := Lib.hid (below_call hbl.out hbn)
          clear hbn x0 x1 x2 x3 x4 y0 y1 y2 y3 y4 z0 z1 z2 z3 z4
          obtain ⟨x0, x1, x2, x3, x4⟩ := blk5 hS.1
          obtain ⟨y0, y1, y2, y3, y4⟩ := blk5 hS.2.1
          obtain ⟨z0, z1, z2, z3, z4⟩ := blk5 hS.2.2
          go_wp2_with fail
          go_meet
          exact ⟨rfl, hbl⟩
      | false =>
        have H1 := Lib.hid h1
        clear h1
        go_wp2_with fail
        (with_reducible refine (less_v f g false w2 H1.out).mono ?_)
        rintro e v16 ⟨rfl, hbn⟩
        replace hS := hS.kept hbn
        replace hbl := Lib.hid (below_call hbl.out hbn)
        clear hbn x0 x1 x2 x3 x4 y0 y1 y2 y3 y4 z0 z1 z2 z3 z4
        obtain ⟨x0, x1, x2, x3, x4⟩ := blk5 hS.1
        obtain ⟨y0, y1, y2, y3, y4⟩ := blk5 hS.2.1
        obtain ⟨z0, z1, z2, z3, z4⟩ := blk5 hS.2.2
        go_wp2_with fail
        go_meet
        exact ⟨rfl, hbl⟩
    case rest =>
      obtain ⟨w3, rfl⟩ : ∃ x, x = wc := ⟨_, rfl⟩
      obtain ⟨rfl, hb3⟩ := hcut
      have hS3 := hS2.kept hb3.out
      have hbw3 := below_call hbw2 hb3.out
      obtain ⟨x0, x1, x2, x3, x4⟩ := blk5 hS3.1
      have hcur : Below w3.heap.size w3 w3.drew := Below.drew (Below.refl _ _)
      go_upto_region 7 with (fail)
      by_cases hg : GoodF f
      · have HG1 := Lib.hid hg
        have HG2 := Lib.hid ((good_rev f).2 hg)
        clear hg
        go_region_held3 (fun w' => w'.cell? ⟨w.heap.size, 0, none⟩ = some (.int .i64 f.proto) ∧ w'.cell? ⟨w.heap.size, 1, none⟩ = some (.int .u32 f.src) ∧ w'.cell? ⟨w.heap.size, 2, none⟩ = some (.int .i64 f.sp) ∧ w'.cell? ⟨w.heap.size, 3, none⟩ = some (.int .u32 f.dst) ∧ w'.cell? ⟨w.heap.size, 4, none⟩ = some (.int .i64 f.dp))
          (with_reducible exact ⟨cell_keep hcur x0, cell_keep hcur x1, cell_keep hcur x2, cell_keep hcur x3, cell_keep hcur x4⟩)
          (first
            | (go_at_call 27; (with_reducible refine (reverse_any f _).mono ?_); rintro e w9 ⟨rfl, hb9⟩; replace hcur := below_call hcur hb9)
            | (go_at_call 27; (with_reducible refine (reverse_back f _).mono ?_); rintro e w8 ⟨rfl, hb8⟩; replace hcur := below_call hcur hb8)
            | (go_at_call 28; (with_reducible refine (acheck_good f _ HG1.out).mono ?_); rintro e w7 ⟨rfl, hb7⟩; replace hcur := below_call hcur hb7)
            | (go_at_call 28; (with_reducible refine (acheck_good (rev f) _ HG2.out).mono ?_); rintro e w6 ⟨rfl, hb6⟩; replace hcur := below_call hcur hb6))
        all_goals
          have hc9 := below_call hbw3 hcur
          clear x0 x1 x2 x3 x4
          go_wp2_with fail
          go_ret
          exact ⟨by simp [go_sem], hc9⟩
      · have HG1 := Lib.hid hg
        have HG2 := Lib.hid (fun h => hg ((good_rev f).1 h))
        clear hg
        go_region_held3 (fun w' => w'.cell? ⟨w.heap.size, 0, none⟩ = some (.int .i64 f.proto) ∧ w'.cell? ⟨w.heap.size, 1, none⟩ = some (.int .u32 f.src) ∧ w'.cell? ⟨w.heap.size, 2, none⟩ = some (.int .i64 f.sp) ∧ w'.cell? ⟨w.heap.size, 3, none⟩ = some (.int .u32 f.dst) ∧ w'.cell? ⟨w.heap.size, 4, none⟩ = some (.int .i64 f.dp))
          (with_reducible exact ⟨cell_keep hcur x0, cell_keep hcur x1, cell_keep hcur x2, cell_keep hcur x3, cell_keep hcur x4⟩)
          (first
            | (go_at_call 27; (with_reducible refine (reverse_any f _).mono ?_); rintro e w9 ⟨rfl, hb9⟩; replace hcur := below_call hcur hb9)
            | (go_at_call 27; (with_reducible refine (reverse_back f _).mono ?_); rintro e w8 ⟨rfl, hb8⟩; replace hcur := below_call hcur hb8)
            | (go_at_call 28; (with_reducible refine (acheck_bad f _ HG1.out).mono ?_); rintro e w7 ⟨rfl, hb7⟩; replace hcur := below_call hcur hb7)
            | (go_at_call 28; (with_reducible refine (acheck_bad (rev f) _ HG2.out).mono ?_); rintro e w6 ⟨rfl, hb6⟩; replace hcur := below_call hcur hb6))
        all_goals
          have hc9 := below_call hbw3 hcur
          clear x0 x1 x2 x3 x4
          go_wp2_with fail
          go_ret
          exact ⟨by simp [go_sem], hc9⟩
theorem AddrOrdersX_walk {H : Type} (x0 : Fl) (v0 : Value) (x1 : Fl) (v1 : Value) (x2 : Fl) (v2 : Value) (w : World) (hG : Gd w) {d0 d1 d2 : DataW H} (o0 : FlIs v0 d0 x0) (b0 : Rows.uptoBulk d0 ≤ 1048576) (o1 : FlIs v1 d1 x1) (b1 : Rows.uptoBulk d1 ≤ 1048576) (o2 : FlIs v2 d2 x2) (b2 : Rows.uptoBulk d2 ≤ 1048576) :
    Calls Tryd.prog 7 #[v0, v1, v2] w fun e w' => e = .returned (.bool true) ∧ Below w.heap.size w w' := by
  obtain ⟨rfl, -⟩ := o0
  obtain ⟨rfl, -⟩ := o1
  obtain ⟨rfl, -⟩ := o2
  exact AddrOrders_walk x0 x1 x2 w hG
end Go.Proofs.YtfhdkcdhfdapbaaDoor
