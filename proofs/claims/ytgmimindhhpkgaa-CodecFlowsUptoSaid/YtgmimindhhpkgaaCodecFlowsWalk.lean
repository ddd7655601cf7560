/- The walk of the law CodecFlows. -/
import Derived.Test.YtgmimindhhpkgaaTakeFlowR
import Derived.Test.YtgmimindhhpkgaaFlowEq
import Derived.Test.YtgmimindhhpkgaaFlowOpen
import Derived.Lib.IfaceEq
namespace Go.Proofs.Ytgmimindhhpkgaa
set_option linter.unusedVariables false
set_option linter.unusedSimpArgs false
open Go.RowKit

/-- What both TakeFlow hand back: a flow, numbers, whether there is an error. -/
def TfIs (ns : List Int) (f : Fl) (rest : List Int) (en : Int) : Prop := (IsTf ns f rest ∧ en = 0) ∨ ((∀ f rest, ¬ IsTf ns f rest) ∧ f = fl0 ∧ rest = [] ∧ en = 3)
theorem tfIs_one {ns : List Int} {f f' : Fl} {r r' : List Int} {k k' : Int} (h : TfIs ns f r k) (h' : TfIs ns f' r' k') : f = f' ∧ r = r' ∧ k = k' := by
  rcases h with ⟨h1, rfl⟩ | ⟨h1, rfl, rfl, rfl⟩
  · rcases h' with ⟨h2, rfl⟩ | ⟨h2, rfl, rfl, rfl⟩
    · have h3 := h1.1.symm.trans h2.1
      obtain ⟨a, b, c, d, e⟩ := f
      obtain ⟨a', b', c', d', e'⟩ := f'
      simp only [List.cons.injEq] at h3
      obtain ⟨rfl, rfl, rfl, rfl, rfl, rfl⟩ := h3
      exact ⟨rfl, rfl, rfl⟩
    · exact absurd h1 (h2 _ _)
  · rcases h' with ⟨h2, rfl⟩ | ⟨h2, rfl, rfl, rfl⟩
    · exact absurd h2 (h1 _ _)
    · exact ⟨rfl, rfl, rfl⟩
theorem tfIs_len {ns : List Int} {f : Fl} {r : List Int} {k : Int} (h : TfIs ns f r k) : r.length ≤ ns.length := by
  rcases h with ⟨h1, rfl⟩ | ⟨h1, rfl, rfl, rfl⟩
  · rw [h1.1]; simp only [List.length_cons]; omega
  · simp
def ErrIs (en : Int) (x : Value) : Prop := (en = 0 ∧ x = .nilIface) ∨ (en = 3 ∧ x = er 3)
theorem num_of3 {en : Int} {x : Value} (h : ErrIs en x) (w : World) : Calls Try.prog 15 #[x] w fun e w' => e = .returned (.int .i64 en) ∧ w' = w := by
  rcases h with ⟨rfl, rfl⟩ | ⟨rfl, rfl⟩
  · exact num_nil w
  · exact num_er 3 (by omega) w
theorem takeflow_all (ns : List Int) (A : Option Addr) (c : Nat) (w : World) (hA : RC w A (ns.map iv)) (hc : ns.length ≤ c) (hn : ns.length ≤ 2000000) :
    Calls Try.prog 26 #[.slice A ns.length c] w fun e w' => ∃ f rest en x v, e = .returned (.tuple #[flv f, v, x]) ∧ TfIs ns f rest en ∧ ErrIs en x ∧ w'.ownsRow (w.heap.size + 1) 3 1 v rest.length (rest.map iv) ∧ Below w.heap.size w w' := by
  by_cases h : ∃ f rest, IsTf ns f rest
  · obtain ⟨f, rest, h⟩ := h
    obtain rfl := h.1
    refine (takeflow_good f rest A c w hA (by simpa using hc) (by simp at hn; omega) h).mono ?_
    rintro e w' ⟨v, rfl, ho, hb⟩
    exact ⟨f, rest, 0, _, v, rfl, .inl ⟨h, rfl⟩, .inl ⟨rfl, rfl⟩, ho, hb⟩
  · have h2 : ∀ f rest, ¬ IsTf ns f rest := fun f rest hh => h ⟨f, rest, hh⟩
    refine (takeflow_bad ns A c w hA hc hn h2).mono ?_
    rintro e w' ⟨rfl, hb⟩
    exact ⟨fl0, [], 3, _, _, rfl, .inr ⟨h2, rfl, rfl, rfl⟩, .inr ⟨rfl, rfl⟩, World.ownsRow_nil _ _ _ _, hb⟩
theorem rtakeflow_all (ns : List Int) (A : Option Addr) (c : Nat) (w : World) (hA : RC w A (ns.map iv)) (hc : ns.length ≤ c) (hn : ns.length ≤ 2000000) :
    Calls Try.prog 27 #[.slice A ns.length c] w fun e w' => ∃ f rest en v, e = .returned (.tuple #[flv f, v, .int .i64 en]) ∧ TfIs ns f rest en ∧ w'.ownsRow (w.heap.size + 1) 3 1 v rest.length (rest.map iv) ∧ Below w.heap.size w w' := by
  by_cases h : ∃ f rest, IsTf ns f rest
  · obtain ⟨f, rest, h⟩ := h
    obtain rfl := h.1
    refine (rtakeflow_good f rest A c w hA (by simpa using hc) (by simp at hn; omega) h).mono ?_
    rintro e w' ⟨v, rfl, ho, hb⟩
    exact ⟨f, rest, 0, v, rfl, .inl ⟨h, rfl⟩, ho, hb⟩
  · have h2 : ∀ f rest, ¬ IsTf ns f rest := fun f rest hh => h ⟨f, rest, hh⟩
    refine (rtakeflow_bad ns A c w hA hc hn h2).mono ?_
    rintro e w' ⟨rfl, hb⟩
    exact ⟨fl0, [], 3, _, rfl, .inr ⟨h2, rfl, rfl, rfl⟩, World.ownsRow_nil _ _ _ _, hb⟩

def flnums (f : Fl) : List Int := [f.proto, f.src, f.sp, f.dst, f.dp]
set_option maxHeartbeats 800000 in
theorem flow_any (f : Fl) (w : World) (h1 : 0 ≤ f.src ∧ f.src ≤ 4294967295) (h2 : 0 ≤ f.dst ∧ f.dst ≤ 4294967295) :
    Calls Try.prog 29 #[flv f] w fun e w' => ∃ g, e = .returned (.slice (some ⟨g, 0, none⟩) 5 5) ∧ RC w' (some ⟨g, 0, none⟩) ((flnums f).map iv) ∧ Below w.heap.size w w' := by
  obtain ⟨p, s, sp, d, dp⟩ := f
  obtain ⟨h1, h1'⟩ := h1
  obtain ⟨h2, h2'⟩ := h2
  simp only at h1 h1' h2 h2'
  go_enter Try.func29, Try.ntmps29
  go_wp2
  go_ret
  exact ⟨_, rfl, rc_at _ [iv p, iv s, iv sp, iv d, iv dp] _ _ (by simp), ((Below.refl _ w).alloc (Nat.le_refl _) _).alloc (by simp) _⟩
set_option maxHeartbeats 800000 in
theorem rflow_any (f : Fl) (w : World) (h1 : 0 ≤ f.src ∧ f.src ≤ 4294967295) (h2 : 0 ≤ f.dst ∧ f.dst ≤ 4294967295) :
    Calls Try.prog 30 #[flv f] w fun e w' => ∃ g, e = .returned (.slice (some ⟨g, 0, none⟩) 5 5) ∧ RC w' (some ⟨g, 0, none⟩) ((flnums f).map iv) ∧ Below w.heap.size w w' := by
  obtain ⟨p, s, sp, d, dp⟩ := f
  obtain ⟨h1, h1'⟩ := h1
  obtain ⟨h2, h2'⟩ := h2
  simp only at h1 h1' h2 h2'
  go_enter Try.func30, Try.ntmps30
  go_wp2
  go_ret
  exact ⟨_, rfl, rc_at _ [iv p, iv s, iv sp, iv d, iv dp] _ _ (by simp), ((Below.refl _ w).alloc (Nat.le_refl _) _).alloc (by simp) _⟩
theorem flowInts (f : Fl) (ga gb : Nat) (w : World) (ha : RC w (some ⟨ga, 0, none⟩) ((flnums f).map iv)) (hb : RC w (some ⟨gb, 0, none⟩) ((flnums f).map iv)) :
    Calls Try.prog 28 #[.slice (some ⟨ga, 0, none⟩) 5 5, .slice (some ⟨gb, 0, none⟩) 5 5] w fun e w' => e = .returned (.bool true) ∧ Below w.heap.size w w' := by
  refine Calls.mono (ints_any (flnums f) (flnums f) _ _ 5 5 w ha hb (by simp [flnums])) ?_
  rintro e w' ⟨rfl, h⟩
  exact ⟨by rw [decide_eq_true rfl], h⟩
theorem keep15 {w w' : World} {a b c : Nat} {t : TypeId} {f x y : Fl} (hb : Below w.heap.size w w') (h1 : Blk w a t (flc f)) (h2 : Blk w b t (flc x)) (h3 : Blk w c t (flc y)) :
    w'.cell? ⟨a, 0, none⟩ = some (.int .i64 f.proto) ∧ w'.cell? ⟨a, 1, none⟩ = some (.int .u32 f.src) ∧ w'.cell? ⟨a, 2, none⟩ = some (.int .i64 f.sp) ∧ w'.cell? ⟨a, 3, none⟩ = some (.int .u32 f.dst) ∧ w'.cell? ⟨a, 4, none⟩ = some (.int .i64 f.dp) ∧
    w'.cell? ⟨b, 0, none⟩ = some (.int .i64 x.proto) ∧ w'.cell? ⟨b, 1, none⟩ = some (.int .u32 x.src) ∧ w'.cell? ⟨b, 2, none⟩ = some (.int .i64 x.sp) ∧ w'.cell? ⟨b, 3, none⟩ = some (.int .u32 x.dst) ∧ w'.cell? ⟨b, 4, none⟩ = some (.int .i64 x.dp) ∧
    w'.cell? ⟨c, 0, none⟩ = some (.int .i64 y.proto) ∧ w'.cell? ⟨c, 1, none⟩ = some (.int .u32 y.src) ∧ w'.cell? ⟨c, 2, none⟩ = some (.int .i64 y.sp) ∧ w'.cell? ⟨c, 3, none⟩ = some (.int .u32 y.dst) ∧ w'.cell? ⟨c, 4, none⟩ = some (.int .i64 y.dp) := by
  obtain ⟨a0, a1, a2, a3, a4⟩ := blk5 (h1.kept hb)
  obtain ⟨b0, b1, b2, b3, b4⟩ := blk5 (h2.kept hb)
  obtain ⟨c0, c1, c2, c3, c4⟩ := blk5 (h3.kept hb)
  exact ⟨a0, a1, a2, a3, a4, b0, b1, b2, b3, b4, c0, c1, c2, c3, c4⟩

set_option maxHeartbeats 6400000 in
theorem CodecFlows_walk (f : Fl) (ns : List Int) (A : Option Addr) (c : Nat) (w : World) (h1 : 0 ≤ f.src ∧ f.src ≤ 4294967295) (h2 : 0 ≤ f.dst ∧ f.dst ≤ 4294967295) (hA : RC w A (ns.map iv)) (hc : ns.length ≤ c) (hn : ns.length ≤ 1048576) :
    Calls Try.prog 9 #[flv f, .slice A ns.length c] w fun e w' => e = .returned (.bool true) ∧ Below w.heap.size w w' := by
  obtain ⟨i0, hi, hz0, hz1, hz2⟩ := info_parts info_int
  have hb0 : Below w.heap.size w (w.alloc (.cells #[.int .i64 f.proto, .int .u32 f.src, .int .i64 f.sp, .int .u32 f.dst, .int .i64 f.dp] 56)) := (Below.refl _ w).alloc (Nat.le_refl _) _
  have hX : Blk (w.alloc (.cells #[.int .i64 f.proto, .int .u32 f.src, .int .i64 f.sp, .int .u32 f.dst, .int .i64 f.dp] 56)) w.heap.size 56 (flc f) := Blk.new w _ _
  go_enter Try.func9, Try.ntmps9
  go_wp2_with fail
  generalize w.alloc (.cells #[.int .i64 f.proto, .int .u32 f.src, .int .i64 f.sp, .int .u32 f.dst, .int .i64 f.dp] 56) = wa at *
  refine (alive06_any wa).mono ?_
  rintro e w1 ⟨rfl, hb1'⟩
  have hb1 := below_call hb0 hb1'
  have hX1 := hX.kept hb1'
  have HA := Lib.hid hA
  have hA1 := hA.below hb1
  have hs1 := hb1.size
  clear hX hb1' hb0 hA
  go_wp2_with (at_make; refine wpList_make_own _ rfl _ _ 22 rfl w1.heap.size 3 i0 (.int .i64 0) 1 Try.underlying22 hi hz0 hz1 .i64 .i64 _ (ns.length + 1) rfl rfl (by omega) (by rw [hz2]; omega) (by unfold maxLen; omega) (Nat.le_refl _) ?_)
  intro w2 hown2 hg2
  have hb2 : Below w1.heap.size w1 w2 := (Below.refl _ _).grown hg2 (Nat.le_refl _) (fun k hk => by cases hk)
  go_wp2_with (at_builtin; refine wl_fit _ rfl (.tmp 18) (.tmp 19) 22 rfl w1.heap.size 3 i0 1 Try.underlying22 hi hz1 (by omega) w1.heap.size 0 (ns.length + 1) [] rfl hown2 A ns.length c (ns.map iv) rfl (by simp) (hA1.below hb2) (one_iv ns) (by omega) ?_)
  intro w3 hown3 hg3
  try simp only [Nat.zero_add, List.nil_append] at hown3
  have hb3 : Below w1.heap.size w1 w3 := hb2.grown hg3 hb2.size (fun k hk => by cases hk; exact Nat.le_refl _)
  go_wp2_with (at_builtin; refine wl_fit _ rfl (.tmp 20) (.tmp 21) 22 rfl w1.heap.size 3 i0 1 Try.underlying22 hi hz1 (by omega) w1.heap.size ns.length (ns.length + 1) (ns.map iv) rfl (hown3.alloc _) (some ⟨w3.heap.size, 0, none⟩) 1 1 [.int .i64 (-77)] rfl (by simp) (rc_new w3 _ _) (by simp [Value.oneCell']) (by omega) ?_)
  intro w4 hown4 hg4
  have hb4 : Below w1.heap.size w1 w4 := (hb3.alloc hb3.size _).grown hg4 (by have := hb3.size; simp; omega) (fun k hk => by cases hk; exact Nat.le_refl _)
  have hC4 : Blk w4 w1.heap.size 3 ((ns ++ [-77]).map iv) := by
    have := Blk.of_own hown4 rfl
    rw [List.map_append]
    exact this
  clear hown2 hg2 hb2 hown3 hg3 hb3 hown4 hg4
  have hX4 := hX1.kept hb4
  have hA4 := hA1.below hb4
  have hb4' := below_call hb1 hb4
  have hCR : RC w4 (some ⟨w1.heap.size, 0, none⟩) (ns.map iv) := by
    have h3 := RC.take_ hC4.rc ns.length
    rwa [← List.map_take, List.take_append_of_le_length (Nat.le_refl _), List.take_length] at h3
  have c77 := hC4.cell ns.length
  rw [List.getElem?_map, List.getElem?_append_right (Nat.le_refl _), Nat.sub_self] at c77
  simp only [List.getElem?_cons_zero, Option.map_some] at c77
  have hgw : w.heap.size ≤ w1.heap.size := hs1
  have hgl := hC4.lt
  generalize w1.heap.size = g at *
  clear hX1 hA1 hb4 hb1
  have z1 : (0 : Int) ≤ (ns.length : Int) := by omega
  have z2 : (ns.length : Int) ≤ (ns.length : Int) + 1 := by omega
  go_wp2_with fail
  (with_reducible refine (takeflow_all ns (some ⟨g, 0, none⟩) (ns.length + 1) w4 hCR (by omega) (by omega)).mono ?_)
  rintro e w5 ⟨x, rest, en, ex, vr, rfl, ht, he, hr5, hb5⟩
  have hX5 := hX4.kept hb5
  have hC5 := hC4.kept hb5
  have hA5 := hA4.below hb5
  have hb5' := below_call hb4' hb5
  have c775 := cell_keep hb5 c77
  have hs45 := hb5.size
  clear hX4 hC4 hA4 hb4' c77 hCR hb5
  obtain ⟨Ar, cr, rfl, -, -, -⟩ := own_form hr5
  have hal : Below w5.heap.size w5 (w5.alloc (.cells #[.int .i64 x.proto, .int .u32 x.src, .int .i64 x.sp, .int .u32 x.dst, .int .i64 x.dp] 56)) := (Below.refl _ w5).alloc (Nat.le_refl _) _
  have hY6 : Blk (w5.alloc (.cells #[.int .i64 x.proto, .int .u32 x.src, .int .i64 x.sp, .int .u32 x.dst, .int .i64 x.dp] 56)) w5.heap.size 56 (flc x) := Blk.new w5 _ _
  go_upto_region 5 with (fail)
  generalize w5.alloc (.cells #[.int .i64 x.proto, .int .u32 x.src, .int .i64 x.sp, .int .u32 x.dst, .int .i64 x.dp] 56) = w6 at *
  have hX6 := hX5.kept hal
  have hC6 := hC5.kept hal
  have hA6 := hA5.below hal
  have hr6 := own_below hr5 hal
  have hb6' := below_call hb5' hal
  have c776 := cell_keep hal c775
  have hs56 := hal.size
  obtain ⟨g6, hg6⟩ : ∃ g6, g6 = w5.heap.size := ⟨_, rfl⟩
  rw [← hg6] at hY6 ⊢
  clear hX5 hC5 hA5 hr5 hb5' c775 hal hg6
  go_wp2_with fail
  (with_reducible refine (rtakeflow_all ns A c w6 hA6 hc (by omega)).mono ?_)
  rintro e w7 ⟨x', rest', en', vr', rfl, ht', hr7', hb7⟩
  obtain ⟨rfl, rfl, rfl⟩ := tfIs_one ht ht'
  have htl := tfIs_len ht
  clear ht ht'
  have hX7 := hX6.kept hb7
  have hC7 := hC6.kept hb7
  have hA7 := hA6.below hb7
  have hr7 := own_below hr6 hb7
  have hY7 := hY6.kept hb7
  have hb7' := below_call hb6' hb7
  have c777 := cell_keep hb7 c776
  have hs67 := hb7.size
  clear hX6 hC6 hA6 hr6 hb6' c776 hb7 hY6
  obtain ⟨Aw, cw, rfl, -, -, -⟩ := own_form hr7'
  have hal : Below w7.heap.size w7 (w7.alloc (.cells #[.int .i64 x.proto, .int .u32 x.src, .int .i64 x.sp, .int .u32 x.dst, .int .i64 x.dp] 56)) := (Below.refl _ w7).alloc (Nat.le_refl _) _
  have hZ8 : Blk (w7.alloc (.cells #[.int .i64 x.proto, .int .u32 x.src, .int .i64 x.sp, .int .u32 x.dst, .int .i64 x.dp] 56)) w7.heap.size 56 (flc x) := Blk.new w7 _ _
  go_upto_region 6 with (fail)
  generalize w7.alloc (.cells #[.int .i64 x.proto, .int .u32 x.src, .int .i64 x.sp, .int .u32 x.dst, .int .i64 x.dp] 56) = w8 at *
  have hX8 := hX7.kept hal
  have hC8 := hC7.kept hal
  have hA8 := hA7.below hal
  have hr8 := own_below hr7 hal
  have hr8' := own_below hr7' hal
  have hY8 := hY7.kept hal
  have hb8' := below_call hb7' hal
  have c778 := cell_keep hal c777
  have hs78 := hal.size
  obtain ⟨g8, hg8⟩ : ∃ g8, g8 = w7.heap.size := ⟨_, rfl⟩
  rw [← hg8] at hZ8 ⊢
  clear hX7 hC7 hA7 hr7 hr7' hb7' c777 hal hg8 hY7
  have hRr := RC.of_own hr8
  have hRw := RC.of_own hr8'
  have hrl : rest.length ≤ 1048576 := Nat.le_trans htl hn
  have hdd : decide (rest = rest) = true := decide_eq_true rfl
  have HDD := Lib.hid hdd
  clear hdd
  have hcur : Below w8.heap.size w8 w8.drew := Below.drew (Below.refl _ w8)
  have heq := fl_same x
  have hen : (en != en) = false := by simp
  go_region_held3 (fun w' => w'.cell? ⟨w.heap.size, 0, none⟩ = some (.int .i64 f.proto) ∧ w'.cell? ⟨w.heap.size, 1, none⟩ = some (.int .u32 f.src) ∧ w'.cell? ⟨w.heap.size, 2, none⟩ = some (.int .i64 f.sp) ∧ w'.cell? ⟨w.heap.size, 3, none⟩ = some (.int .u32 f.dst) ∧ w'.cell? ⟨w.heap.size, 4, none⟩ = some (.int .i64 f.dp) ∧ w'.cell? ⟨g6, 0, none⟩ = some (.int .i64 x.proto) ∧ w'.cell? ⟨g6, 1, none⟩ = some (.int .u32 x.src) ∧ w'.cell? ⟨g6, 2, none⟩ = some (.int .i64 x.sp) ∧ w'.cell? ⟨g6, 3, none⟩ = some (.int .u32 x.dst) ∧ w'.cell? ⟨g6, 4, none⟩ = some (.int .i64 x.dp) ∧ w'.cell? ⟨g8, 0, none⟩ = some (.int .i64 x.proto) ∧ w'.cell? ⟨g8, 1, none⟩ = some (.int .u32 x.src) ∧ w'.cell? ⟨g8, 2, none⟩ = some (.int .i64 x.sp) ∧ w'.cell? ⟨g8, 3, none⟩ = some (.int .u32 x.dst) ∧ w'.cell? ⟨g8, 4, none⟩ = some (.int .i64 x.dp))
    (with_reducible exact keep15 hcur hX8 hY8 hZ8)
    (first
      | (go_at_call 28; (with_reducible refine (ints_any rest rest _ _ _ _ _ (hRr.below hcur) (hRw.below hcur) (by omega)).mono ?_); rintro e w9 ⟨rfl, hb9⟩; rw [HDD.out]; replace hcur := below_call hcur hb9)
      | (go_at_call 15; (with_reducible refine (num_of3 he _).mono ?_); rintro e w9 ⟨rfl, rfl⟩)
      | (go_at_call 29; (with_reducible refine (flow_any f _ h1 h2).mono ?_); rintro e w9 ⟨ga, rfl, hRa, hb9⟩; (try replace hRb := hRb.below hb9); replace hcur := below_call hcur hb9)
      | (go_at_call 30; (with_reducible refine (rflow_any f _ h1 h2).mono ?_); rintro e w9 ⟨gb, rfl, hRb, hb9⟩; (try replace hRa := hRa.below hb9); replace hcur := below_call hcur hb9)
      | (go_at_call 28; (with_reducible refine (flowInts f _ _ _ hRa hRb).mono ?_); rintro e w9 ⟨rfl, hb9⟩; replace hcur := below_call hcur hb9))
  all_goals
    go_wp2_with fail
    clear hX8 hY8 hZ8 hRr hRw hr8' hRa hRb heq hen
    have hown9 := own_below hr8 hcur
    have hC9 := hC8.kept hcur
    have hA9 := hA8.below hcur
    have c779 := cell_keep hcur c778
    have hb9' := below_call hb8' hcur
    have hgo : ∀ b, (Value.slice Ar rest.length cr).ownBlock = some b → g < b := fun b e => by have := (own_lt hown9 e).1; omega
    have HGO := Lib.hid hgo
    have hsz : w.heap.size ≤ w9.heap.size := hb9'.size
    clear hr8 hC8 hA8 c778 hb8' hgo hcur HDD hb9
    obtain ⟨xs, hxs⟩ : ∃ xs : List Value, w9.ownsRow (w4.heap.size + 1) 3 1 (.slice Ar rest.length cr) rest.length xs := ⟨_, hown9⟩
    clear hown9
    generalize rest.length = N at *
    go_loopw [63] (fun i wr => ∃ (k : Nat) (ys : List Value), k ≤ N ∧ i = .int .i64 (k : Int) ∧ wr.ownsRow (w4.heap.size + 1) 3 1 (.slice Ar N cr) N ys ∧ w9.grownBy wr (Value.slice Ar N cr).ownBlock) (fun i _ => N - (intOf i).toNat)
    case atStart => exact ⟨0, xs, Nat.zero_le _, rfl, hxs, World.grownBy.refl _ _⟩
    case round =>
      obtain ⟨k, ys, hk, rfl, hown, hgr⟩ := hrel
      by_cases hlt : k < N
      · obtain ⟨gr, c9, he, hge, hgl⟩ := own_headE hown (by omega)
        injection he with he1 he2 he3
        subst he1 he3
        have cc := own_cellE hown k hlt
        have hyl : ys.length = N := by have := hown.1; omega
        rw [List.getElem?_eq_getElem (by omega)] at cc
        have cf := hown.frozenAt k
        have HST := Lib.hid (hown.stored k (.int .i64 0))
        clear hxs hown
        generalize ys[k]'(by omega) = y at *
        go_wp2_with fail
        go_roundw
        case rel => exact ⟨k + 1, _, by omega, by go_num, HST.out.1, hgr.trans HST.out.2⟩
        case measure => simp [intOf]; omega
      · have hbr := hb9'.grown hgr hsz (fun b e => by have := HGO.out b e; omega)
        have hCr : Blk wr g 3 ((ns ++ [-77]).map iv) := hC9.grown hgr (fun e => by have := HGO.out g e.symm; omega)
        have hAr := HA.out.below hbr
        have hCR : RC wr (some ⟨g, 0, none⟩) (ns.map iv) := by
          have h3 := RC.take_ hCr.rc ns.length
          rwa [← List.map_take, List.take_append_of_le_length (Nat.le_refl _), List.take_length] at h3
        have c77 := hCr.cell ns.length
        rw [List.getElem?_map, List.getElem?_append_right (Nat.le_refl _), Nat.sub_self] at c77
        simp only [List.getElem?_cons_zero, Option.map_some] at c77
        clear hxs hown hgr hC9 hA9 c779 hb9' hCr HA
        go_wp2_with fail
        (with_reducible refine (ints_any ns ns (some ⟨g, 0, none⟩) A (ns.length + 1) c wr hCR hAr (by omega)).mono ?_)
        rintro e w10 ⟨rfl, hb10⟩
        rw [show decide (ns = ns) = true from decide_eq_true rfl]
        have c7710 := cell_keep hb10 c77
        have z3 : (ns.length : Int) < (ns.length : Int) + 1 := by omega
        go_wp2_with fail
        go_ret
        exact ⟨rfl, below_call hbr hb10⟩

theorem CodecFlowsX_walk {H : Type} {da : DataW H} (f : Fl) (v : Value) (ns : List Int) (A : Option Addr) (c : Nat) (w : World) (o : FlIs v da f) (_b : Rows.uptoBulk da ≤ 1048576) (hc : ns.length ≤ c) (hA : RC w A (ns.map iv)) (hn : ns.length ≤ 1048576) :
    Calls Try.prog 9 #[v, .slice A ns.length c] w fun e w' => e = .returned (.bool true) ∧ Below w.heap.size w w' := by
  obtain ⟨rfl, h1, h2⟩ := o
  exact CodecFlows_walk f ns A c w h1 h2 hA hc hn
end Go.Proofs.Ytgmimindhhpkgaa
