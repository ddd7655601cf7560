/- The walk of AddrFlows. -/
import Derived.Test.YtfhdkcdhfdapbaaDoorAdLessW
import Derived.Test.YtfhdkcdhfdapbaaDoorAdHash
import Derived.Test.YtfhdkcdhfdapbaaDoorAdBytes
import Derived.Test.YtfhdkcdhfdapbaaDoorAdRefL
import Derived.Test.YtfhdkcdhfdapbaaDoorFlowOpen
import Derived.Deep.CutBlock
import Derived.Deep.DeepCutAuto
namespace Go.Proofs.YtfhdkcdhfdapbaaDoor
set_option linter.unusedVariables false
set_option linter.unusedSimpArgs false
open Go.RowKit Go.Sort

def U32F (f : Fl) : Prop := (0 ≤ f.src ∧ f.src ≤ 4294967295) ∧ (0 ≤ f.dst ∧ f.dst ≤ 4294967295)
/-- A flow's number. -/
def hashF (seed : Int) (f : Fl) : Int := hashI seed (thirteen f.proto f.sp f.dp (adL f.src.toNat 4) (adL f.dst.toNat 4))
theorem adL4 (a : Nat) (h : a < 4294967296) : [.int .u8 (adB a 0 : Int), .int .u8 (adB a 1 : Int), .int .u8 (adB a 2 : Int), .int .u8 (adB a 3 : Int)] = (adL a 4).map bv := by
  have e : (adL a 4).map bv = [bv (u8i (adB a 0 : Int)), bv (u8i (adB a 1 : Int)), bv (u8i (adB a 2 : Int)), bv (u8i (adB a 3 : Int))] := rfl
  rw [e, bv_u8n _ (adB_lt a 0 h), bv_u8n _ (adB_lt a 1 h), bv_u8n _ (adB_lt a 2 h), bv_u8n _ (adB_lt a 3 h)]
theorem hash_f (seed : Int) (f : Fl) (x : Int) (w : World) (h : U32F f) (hx : hashF seed f = x) : Calls Tryd.prog 31 #[.int .u64 seed, flv f] w fun e w' => e = .returned (.int .u64 x) ∧ Below w.heap.size w w' := by
  subst hx
  obtain ⟨p, s, sp_, d, dp⟩ := f
  obtain ⟨⟨h1, h2⟩, h3, h4⟩ := h
  simp only at h1 h2 h3 h4
  obtain ⟨s, rfl⟩ := Int.eq_ofNat_of_zero_le h1
  obtain ⟨d, rfl⟩ := Int.eq_ofNat_of_zero_le h3
  exact hash_any seed p sp_ dp s d _ _ _ _ _ _ _ _ w (by omega) (by omega) (adL s 4) (adL d 4) (adL_len _ _) (adL_len _ _) (adL4 s (by omega)) (adL4 d (by omega)) ⟨rfl, rfl, rfl, rfl⟩ ⟨rfl, rfl, rfl, rfl⟩
theorem rhash_f (seed : Int) (f : Fl) (x : Int) (w : World) (h : U32F f) (hx : hashF seed f = x) : Calls Tryd.prog 32 #[.int .u64 seed, flv f] w fun e w' => e = .returned (.int .u64 x) ∧ Below w.heap.size w w' := by
  subst hx
  obtain ⟨p, s, sp_, d, dp⟩ := f
  obtain ⟨⟨h1, h2⟩, h3, h4⟩ := h
  simp only at h1 h2 h3 h4
  obtain ⟨s, rfl⟩ := Int.eq_ofNat_of_zero_le h1
  obtain ⟨d, rfl⟩ := Int.eq_ofNat_of_zero_le h3
  exact rhash_any seed p sp_ dp s d w (by omega) (by omega)
theorem less_f (f g : Fl) (b : Bool) (w : World) (h : lessB f g = b) : Calls Tryd.prog 26 #[flv f, flv g] w fun e w' => e = .returned (.bool b) ∧ Below w.heap.size w w' := by
  rw [← h]; exact less_any f g w
theorem rless_f (f g : Fl) (b : Bool) (w : World) (hf : U32F f) (hg : U32F g) (h : lessB f g = b) : Calls Tryd.prog 33 #[flv f, flv g] w fun e w' => e = .returned (.bool b) ∧ Below w.heap.size w w' := by
  subst h
  obtain ⟨p, s, sp_, d, dp⟩ := f
  obtain ⟨⟨h1, h2⟩, h3, h4⟩ := hf
  obtain ⟨p', s', sp', d', dp'⟩ := g
  obtain ⟨⟨g1, g2⟩, g3, g4⟩ := hg
  simp only at h1 h2 h3 h4 g1 g2 g3 g4
  obtain ⟨s, rfl⟩ := Int.eq_ofNat_of_zero_le h1
  obtain ⟨d, rfl⟩ := Int.eq_ofNat_of_zero_le h3
  obtain ⟨s', rfl⟩ := Int.eq_ofNat_of_zero_le g1
  obtain ⟨d', rfl⟩ := Int.eq_ofNat_of_zero_le g3
  exact rless_any p sp_ dp p' sp' dp' s d s' d' w (by omega) (by omega) (by omega) (by omega)
def Bs2 (W : World) (n : Nat) (f g : Fl) : Prop := Blk W n 53 (flc f) ∧ Blk W (n + 1) 53 (flc g)
theorem Bs2.kept {W W' : World} {n : Nat} {f g : Fl} (hs : Bs2 W n f g) (hb : Below W.heap.size W W') : Bs2 W' n f g := ⟨hs.1.kept hb, hs.2.kept hb⟩
set_option maxRecDepth 100000 in
set_option maxHeartbeats 6400000 in
theorem AddrFlows_walk (seed : Int) (f g : Fl) (w : World) (hG : Gd w) (hf : U32F f) (hg : U32F g) :
    Calls Tryd.prog 8 #[.int .u64 seed, flv f, flv g] w fun e w' => e = .returned (.bool true) ∧ Below w.heap.size w w' := by
  have hal : Below w.heap.size w ((w.alloc (.cells #[.int .i64 f.proto, .int .u32 f.src, .int .i64 f.sp, .int .u32 f.dst, .int .i64 f.dp] 53)).alloc (.cells #[.int .i64 g.proto, .int .u32 g.src, .int .i64 g.sp, .int .u32 g.dst, .int .i64 g.dp] 53)) := below_al (below_al (Below.refl _ w) _) _
  have hS : Bs2 ((w.alloc (.cells #[.int .i64 f.proto, .int .u32 f.src, .int .i64 f.sp, .int .u32 f.dst, .int .i64 f.dp] 53)).alloc (.cells #[.int .i64 g.proto, .int .u32 g.src, .int .i64 g.sp, .int .u32 g.dst, .int .i64 g.dp] 53)) w.heap.size f g := ⟨(Blk.new w _ _).alloc _, blk_new (by simp)⟩
  go_enter Tryd.func8, Tryd.ntmps8
  go_upto_region 1 with (fail)
  generalize ((w.alloc (.cells #[.int .i64 f.proto, .int .u32 f.src, .int .i64 f.sp, .int .u32 f.dst, .int .i64 f.dp] 53)).alloc (.cells #[.int .i64 g.proto, .int .u32 g.src, .int .i64 g.sp, .int .u32 g.dst, .int .i64 g.dp] 53)) = wa at *
  have HF := Lib.hid hf
  have HG' := Lib.hid hg
  obtain ⟨hv, HH⟩ : ∃ x, Hid (hashF seed f = x) := ⟨_, rfl⟩
  obtain ⟨lv, HL⟩ : ∃ x, Hid (lessB f g = x) := ⟨_, rfl⟩
  clear hf hg
  go_wp2_with fail
  (with_reducible refine (alive_any wa (hG.below hal)).mono ?_)
  rintro e w1 ⟨rfl, hb1⟩
  have hbw1 := below_call hal hb1
  have hS1 := hS.kept hb1
  have q2 := fun W => fl_eql W (rev f) (rev f)
  have q3 : flB (rev f) (rev f) = true := (flB_iff _ _).2 rfl
  have q4 := fun W => er_neq 9 9 W
  clear hS hb1 hal
  obtain ⟨x0, x1, x2, x3, x4⟩ := blk5 hS1.1
  go_upto_region 3 with (fail)
  by_cases hgf : GoodF f
  · have HB := Lib.hid hgf
    clear hgf
    go_wp2_with fail
    (with_reducible refine (acheck_good f _ HB.out).mono ?_)
    rintro e w2 ⟨rfl, hb2⟩
    have hbw2 := below_call hbw1 hb2
    have hS2 := hS1.kept hb2
    clear x0 x1 x2 x3 x4
    obtain ⟨x0, x1, x2, x3, x4⟩ := blk5 hS2.1
    go_wp2_with fail
    (with_reducible refine (fgood_good f _ HB.out).mono ?_)
    rintro e wn ⟨rfl, hb3⟩
    have hbwn := below_call hbw2 hb3
    have hSn := hS2.kept hb3
    clear x0 x1 x2 x3 x4
    obtain ⟨x0, x1, x2, x3, x4⟩ := blk5 hSn.1
    go_upto_region 6 with (fail)
    obtain ⟨y0, y1, y2, y3, y4⟩ := blk5 hSn.2
    have hcur : Below wn.heap.size wn wn.drew := Below.drew (Below.refl _ _)
    go_region_held3 (fun w' => w'.cell? ⟨w.heap.size, 0, none⟩ = some (.int .i64 f.proto) ∧ w'.cell? ⟨w.heap.size, 1, none⟩ = some (.int .u32 f.src) ∧ w'.cell? ⟨w.heap.size, 2, none⟩ = some (.int .i64 f.sp) ∧ w'.cell? ⟨w.heap.size, 3, none⟩ = some (.int .u32 f.dst) ∧ w'.cell? ⟨w.heap.size, 4, none⟩ = some (.int .i64 f.dp)
        ∧ w'.cell? ⟨w.heap.size + 1, 0, none⟩ = some (.int .i64 g.proto) ∧ w'.cell? ⟨w.heap.size + 1, 1, none⟩ = some (.int .u32 g.src) ∧ w'.cell? ⟨w.heap.size + 1, 2, none⟩ = some (.int .i64 g.sp) ∧ w'.cell? ⟨w.heap.size + 1, 3, none⟩ = some (.int .u32 g.dst) ∧ w'.cell? ⟨w.heap.size + 1, 4, none⟩ = some (.int .i64 g.dp))
      (with_reducible exact ⟨cell_keep hcur x0, cell_keep hcur x1, cell_keep hcur x2, cell_keep hcur x3, cell_keep hcur x4, cell_keep hcur y0, cell_keep hcur y1, cell_keep hcur y2, cell_keep hcur y3, cell_keep hcur y4⟩)
      (first
        | (go_at_call 27; (with_reducible refine (reverse_any f _).mono ?_); rintro e w9 ⟨rfl, hb9⟩; replace hcur := below_call hcur hb9)
        | (go_at_call 30; (with_reducible refine (rreverse_any f _).mono ?_); rintro e w9 ⟨rfl, hb9⟩; replace hcur := below_call hcur hb9)
        | (go_at_call 31; (with_reducible refine (hash_f seed f hv _ HF.out HH.out).mono ?_); rintro e w9 ⟨rfl, hb9⟩; replace hcur := below_call hcur hb9)
        | (go_at_call 32; (with_reducible refine (rhash_f seed f hv _ HF.out HH.out).mono ?_); rintro e w9 ⟨rfl, hb9⟩; replace hcur := below_call hcur hb9)
        | (go_at_call 26; (with_reducible refine (less_f f g lv _ HL.out).mono ?_); rintro e w9 ⟨rfl, hb9⟩; replace hcur := below_call hcur hb9)
        | (go_at_call 33; (with_reducible refine (rless_f f g lv _ HF.out HG'.out HL.out).mono ?_); rintro e w9 ⟨rfl, hb9⟩; replace hcur := below_call hcur hb9))
    all_goals
      have hc9 := below_call hbwn hcur
      clear x0 x1 x2 x3 x4 y0 y1 y2 y3 y4
      go_wp2_with fail
      go_ret
      exact ⟨by simp [go_sem], hc9⟩
  · have HB := Lib.hid hgf
    clear hgf
    go_wp2_with fail
    (with_reducible refine (acheck_bad f _ HB.out).mono ?_)
    rintro e w2 ⟨rfl, hb2⟩
    have hbw2 := below_call hbw1 hb2
    have hS2 := hS1.kept hb2
    clear x0 x1 x2 x3 x4
    obtain ⟨x0, x1, x2, x3, x4⟩ := blk5 hS2.1
    go_wp2_with fail
    (with_reducible refine (fgood_bad f _ HB.out).mono ?_)
    rintro e w3 ⟨rfl, hb3⟩
    have hbw3 := below_call hbw2 hb3
    have hS3 := hS2.kept hb3
    clear x0 x1 x2 x3 x4
    obtain ⟨x0, x1, x2, x3, x4⟩ := blk5 hS3.1
    go_wp2_with fail
    (with_reducible refine (acheck_bad f _ HB.out).mono ?_)
    rintro e wn ⟨rfl, hb4⟩
    have hbwn := below_call hbw3 hb4
    have hSn := hS3.kept hb4
    clear x0 x1 x2 x3 x4
    obtain ⟨x0, x1, x2, x3, x4⟩ := blk5 hSn.1
    go_upto_region 6 with (fail)
    obtain ⟨y0, y1, y2, y3, y4⟩ := blk5 hSn.2
    have hcur : Below wn.heap.size wn wn.drew := Below.drew (Below.refl _ _)
    go_region_held3 (fun w' => w'.cell? ⟨w.heap.size, 0, none⟩ = some (.int .i64 f.proto) ∧ w'.cell? ⟨w.heap.size, 1, none⟩ = some (.int .u32 f.src) ∧ w'.cell? ⟨w.heap.size, 2, none⟩ = some (.int .i64 f.sp) ∧ w'.cell? ⟨w.heap.size, 3, none⟩ = some (.int .u32 f.dst) ∧ w'.cell? ⟨w.heap.size, 4, none⟩ = some (.int .i64 f.dp)
        ∧ w'.cell? ⟨w.heap.size + 1, 0, none⟩ = some (.int .i64 g.proto) ∧ w'.cell? ⟨w.heap.size + 1, 1, none⟩ = some (.int .u32 g.src) ∧ w'.cell? ⟨w.heap.size + 1, 2, none⟩ = some (.int .i64 g.sp) ∧ w'.cell? ⟨w.heap.size + 1, 3, none⟩ = some (.int .u32 g.dst) ∧ w'.cell? ⟨w.heap.size + 1, 4, none⟩ = some (.int .i64 g.dp))
      (with_reducible exact ⟨cell_keep hcur x0, cell_keep hcur x1, cell_keep hcur x2, cell_keep hcur x3, cell_keep hcur x4, cell_keep hcur y0, cell_keep hcur y1, cell_keep hcur y2, cell_keep hcur y3, cell_keep hcur y4⟩)
      (first
        | (go_at_call 27; (with_reducible refine (reverse_any f _).mono ?_); rintro e w9 ⟨rfl, hb9⟩; replace hcur := below_call hcur hb9)
        | (go_at_call 30; (with_reducible refine (rreverse_any f _).mono ?_); rintro e w9 ⟨rfl, hb9⟩; replace hcur := below_call hcur hb9)
        | (go_at_call 31; (with_reducible refine (hash_f seed f hv _ HF.out HH.out).mono ?_); rintro e w9 ⟨rfl, hb9⟩; replace hcur := below_call hcur hb9)
        | (go_at_call 32; (with_reducible refine (rhash_f seed f hv _ HF.out HH.out).mono ?_); rintro e w9 ⟨rfl, hb9⟩; replace hcur := below_call hcur hb9)
        | (go_at_call 26; (with_reducible refine (less_f f g lv _ HL.out).mono ?_); rintro e w9 ⟨rfl, hb9⟩; replace hcur := below_call hcur hb9)
        | (go_at_call 33; (with_reducible refine (rless_f f g lv _ HF.out HG'.out HL.out).mono ?_); rintro e w9 ⟨rfl, hb9⟩; replace hcur := below_call hcur hb9))
    all_goals
      have hc9 := below_call hbwn hcur
      clear x0 x1 x2 x3 x4 y0 y1 y2 y3 y4
      go_wp2_with fail
      go_ret
      exact ⟨by simp [go_sem], hc9⟩
theorem AddrFlowsX_walk {H : Type} (x0 : Int) (x1 : Fl) (v1 : Value) (x2 : Fl) (v2 : Value) (w : World) (hG : Gd w) {Px : Prop} (u0 : Px) {d1 d2 : DataW H} (o1 : FlIs v1 d1 x1) (b1 : Rows.uptoBulk d1 ≤ 1048576) (o2 : FlIs v2 d2 x2) (b2 : Rows.uptoBulk d2 ≤ 1048576) :
    Calls Tryd.prog 8 #[.int .u64 x0, v1, v2] w fun e w' => e = .returned (.bool true) ∧ Below w.heap.size w w' := by
  obtain ⟨rfl, h1, h2⟩ := o1
  obtain ⟨rfl, h3, h4⟩ := o2
  exact AddrFlows_walk x0 x1 x2 w hG ⟨h1, h2⟩ ⟨h3, h4⟩
end Go.Proofs.YtfhdkcdhfdapbaaDoor
