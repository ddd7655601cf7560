/- The walks of packet.put, pseudo, segment. -/
import Derived.Test.YtbhdjalpkecbeaaWriter
import Derived.Test.YtbhdjalpkecbeaaPkt
import Derived.Test.YtbhdjalpkecbeaaFold
import Derived.Deep.RegionHeld3
namespace Go.Proofs.Ytbhdjalpkecbeaa
set_option linter.unusedVariables false
set_option linter.unusedSimpArgs false
open Go.RowKit

theorem Wr.below {w w' : World} {g : Nat} {l : List UInt8} {v : Value} (h : Wr w g l v) (hb : Below w.heap.size w w') : Wr w' g l v := h.keep hb
theorem wr_new {W : World} {g : Nat} (hg : g = W.heap.size) : Wr (W.alloc (.cells #[.slice none 0 0] 91)) g [] (.slice none 0 0) := ⟨blk_new hg, World.ownsRow_nil _ _ _ _⟩

set_option maxHeartbeats 800000 in
theorem put_any (base gb c at_ n : Nat) (l : List UInt8) (w : World) (ho : w.ownsRow base 5 1 (.slice (some ⟨gb, 0, none⟩) l.length c) l.length (l.map bv)) (hl : l.length ≤ 2000000) (ha : at_ + 1 < l.length) (hn : n ≤ 65535) :
    Calls Try.prog 60 #[.slice (some ⟨gb, 0, none⟩) l.length c, .int .i64 (at_ : Int), .int .u16 (n : Int)] w fun e w' => ∃ x, e = .returned x ∧
      w'.ownsRow base 5 1 (.slice (some ⟨gb, 0, none⟩) l.length c) l.length (((l.set at_ (UInt8.ofNat (n / 256))).set (at_ + 1) (UInt8.ofNat n)).map bv) ∧ w.grownBy w' (some gb) := by
  obtain ⟨x, he, HX⟩ : ∃ x : UInt8, (n : Int) / 256 = (x.toNat : Int) ∧ Hid (x = UInt8.ofNat (n / 256)) := ⟨_, by rw [UInt8.toNat_ofNat']; omega, rfl⟩
  obtain ⟨y, hf, HY⟩ : ∃ y : UInt8, (n : Int) % 256 = (y.toNat : Int) ∧ Hid (y = UInt8.ofNat n) := ⟨_, by rw [UInt8.toNat_ofNat']; omega, rfl⟩
  have c0 := own_cellE ho at_ (by omega)
  rw [List.getElem?_map, List.getElem?_eq_getElem (by omega)] at c0
  simp only [Option.map_some] at c0
  have f0 := ho.frozenAt at_
  have s1 := ho.stored at_ (bv x)
  have c1 := own_cellE s1.1 (at_ + 1) (by omega)
  rw [List.getElem?_set_ne (by omega), List.getElem?_map, List.getElem?_eq_getElem (by omega)] at c1
  simp only [Option.map_some] at c1
  have f1 := s1.1.frozenAt (at_ + 1)
  have s2 := s1.1.stored (at_ + 1) (bv y)
  rw [← List.map_set, ← List.map_set] at s2
  have S := Lib.hid (show _ ∧ w.grownBy _ (some gb) from ⟨s2.1, s1.2.trans s2.2⟩)
  clear s1 s2 ho
  generalize l[at_]'(by omega) = z0 at *
  generalize l[at_ + 1] = z1 at *
  have i1 : (at_ : Int) < (l.length : Int) := by omega
  have i2 : (at_ : Int) + 1 < (l.length : Int) := by omega
  go_enter Try.func60, Try.ntmps60
  go_wp2_with fail
  refine bodyPost_end (results_none rfl _ _ _) rfl ?_
  refine ⟨_, rfl, ?_, S.out.2⟩
  rw [← HX.out, ← HY.out]
  exact S.out.1

set_option maxHeartbeats 1600000 in
theorem pseudo_any (src dst proto n : Nat) (w : World) (h1 : src ≤ 4294967295) (h2 : dst ≤ 4294967295) (h3 : proto ≤ 255) (h4 : n ≤ 65535) :
    Calls Try.prog 65 #[.int .u32 (src : Int), .int .u32 (dst : Int), .int .i64 (proto : Int), .int .i64 (n : Int)] w fun e w' => ∃ v, e = .returned v ∧
      w'.ownsRow (w.heap.size + 1) 5 1 v 12 ((be 4 src ++ be 4 dst ++ [0, UInt8.ofNat proto] ++ be 2 n).map bv) ∧ Below w.heap.size w w' := by
  obtain ⟨i0, hi, hz0, hz1, hz2⟩ := info_parts info_u8
  have hb0 : Below w.heap.size w (w.alloc (.cells #[.slice none 0 0] 91)) := (Below.refl _ w).alloc (Nat.le_refl _) _
  have hW0 : Wr (w.alloc (.cells #[.slice none 0 0] 91)) w.heap.size [] (.slice none 0 0) := wr_new rfl
  have hp : (proto : Int) % 256 = (proto : Int) := by omega
  go_enter Try.func65, Try.ntmps65
  go_upto_region 2 with (fail)
  have hsz : (w.alloc (.cells #[.slice none 0 0] 91)).heap.size = w.heap.size + 1 := by simp
  have HSZ := Lib.hid hsz
  clear hsz
  generalize w.alloc (.cells #[.slice none 0 0] 91) = wa at *
  go_wp2_with fail
  (with_reducible refine (four2 w.heap.size [] _ src dst _ _ wa hW0 (by simp) h1 h2 rfl rfl rfl).mono ?_)
  rintro e w2 ⟨v2, x2, rfl, hW2, hb2⟩
  have hbb2 : Below w.heap.size w w2 := hb0.trans hb2
  rw [List.nil_append] at hW2
  have hql : (be 4 src ++ be 4 dst).length = 8 := by simp [be_len]
  generalize hq0 : be 4 src ++ be 4 dst = q at *
  have HQ0 := Lib.hid hq0
  clear hq0
  have HQL := Lib.hid hql
  clear hb0 hW0 hb2
  obtain ⟨hB2, hO2⟩ := hW2
  rw [hql] at hO2
  clear hql
  obtain ⟨B, cB, rfl, hcB, -, -⟩ := own_form hO2
  have cW := hB2.cell 0
  simp only [List.getElem?_cons_zero] at cW
  have hlt := hB2.lt
  obtain ⟨y, hy, HY⟩ : ∃ y : UInt8, (proto : Int) = (y.toNat : Int) ∧ Hid (y = UInt8.ofNat proto) := ⟨_, by rw [UInt8.toNat_ofNat']; omega, rfl⟩
  go_wp2_with (at_builtin; refine wl_app _ rfl (.tmp 14) (.tmp 17) 91 rfl (w.heap.size + 1) 5 i0 (.int .u8 0) 1 1 Try.underlying91 hi hz0 hz1 hz2 rfl (by omega) (.slice B 8 cB) 8 (q.map bv) rfl (hO2.alloc _) (some ⟨w2.heap.size, 0, none⟩) 2 2 [.int .u8 0, .int .u8 (y.toNat : Int)] rfl rfl (rc_new w2 _ _) (by simp [Value.oneCell']) (by unfold maxLen; omega) (by omega) (by simp; omega) ?_)
  intro v3 w3 hO3 hg3 _
  have hbb3 : Below w.heap.size w w3 := (below_al hbb2 _).grown hg3 (by simp; omega) (fun b e => by have := (own_lt hO2 e).1; omega)
  have hB3 := (hB2.alloc (.cells #[.int .u8 0, .int .u8 (y.toNat : Int)] 5)).grown hg3 (own_ne' (by omega) hO2)
  have hO3' : w3.ownsRow (w.heap.size + 1) 5 1 v3 (q ++ [0, y]).length ((q ++ [0, y]).map bv) := by rw [List.length_append, List.map_append, HQL.out]; exact hO3
  clear hO3 hg3 hO2 hB2 cW hbb2
  have hl10 : (q ++ [0, y]).length = 10 := by simp [HQL.out]
  generalize hq2 : q ++ [0, y] = q2 at *
  have HQ2 := Lib.hid hq2
  have HL10 := Lib.hid hl10
  clear hq2 hl10
  obtain ⟨B3, c3, rfl, -, -, -⟩ := own_form hO3'
  have cW := hB3.cell 0
  simp only [List.getElem?_cons_zero] at cW
  have fW := hB3.frozen 0
  have hlt3 := hB3.lt
  go_upto_region 4 with (fail)
  have hW4 : Wr (w3.setCell ⟨w.heap.size, 0, none⟩ (.slice B3 q2.length c3)) w.heap.size (q2) (.slice B3 q2.length c3) := ⟨by simpa using hB3.set_ 0 (.slice B3 q2.length c3), own_set (by omega) hO3'⟩
  have hbb4 : Below w.heap.size w (w3.setCell ⟨w.heap.size, 0, none⟩ (.slice B3 q2.length c3)) := hbb3.setCell (Nat.le_refl _) _
  generalize w3.setCell ⟨w.heap.size, 0, none⟩ (.slice B3 q2.length c3) = w4 at *
  clear hB3 hO3' hbb3 cW fW
  have hql2 : q2.length ≤ 2000000 := by rw [HL10.out]; omega
  go_wp2_with fail
  (with_reducible refine (two1 w.heap.size _ _ n _ w4 hW4 hql2 h4 rfl rfl).mono ?_)
  rintro e w5 ⟨v5, x5, rfl, hW5, hb5⟩
  have hbb5 : Below w.heap.size w w5 := hbb4.trans hb5
  clear hW4 hb5 hbb4
  have cW := hW5.blk.cell 0
  simp only [List.getElem?_cons_zero] at cW
  obtain ⟨hB5, hO5⟩ := hW5
  have hl12 : (q2 ++ be 2 n).length = 12 := by rw [List.length_append, HL10.out, be_len]
  rw [hl12] at hO5
  rw [← HQ2.out, HY.out, ← HQ0.out] at hO5
  obtain ⟨B5, c5, rfl, -, -, -⟩ := own_form hO5
  clear hl12
  go_wp2_with fail
  go_ret
  exact ⟨_, rfl, hO5, hbb5⟩

theorem pseudo_i (src dst proto n : Nat) (proto' n' : Int) (w : World) (h1 : src ≤ 4294967295) (h2 : dst ≤ 4294967295) (h3 : proto ≤ 255) (h4 : n ≤ 65535) (ep : proto' = (proto : Int)) (en : n' = (n : Int)) :
    Calls Try.prog 65 #[.int .u32 (src : Int), .int .u32 (dst : Int), .int .i64 proto', .int .i64 n'] w fun e w' => ∃ B c, e = .returned (.slice B 12 c) ∧ 12 ≤ c ∧
      RB w' B (be 4 src ++ be 4 dst ++ [0, UInt8.ofNat proto] ++ be 2 n) ∧ Below w.heap.size w w' := by
  subst ep en
  refine (pseudo_any src dst proto n w h1 h2 h3 h4).mono ?_
  rintro e w' ⟨v, rfl, ho, hb⟩
  obtain ⟨B, c, rfl, hc, hR, -⟩ := own_form ho
  exact ⟨B, c, rfl, hc, hR, hb⟩
theorem sum2_any (xs ys : List UInt8) (A : Option Addr) (c : Nat) (w : World) (hA : RP w A [xs, ys]) (hx : xs.length ≤ 1000000) (hy : ys.length ≤ 1000000) :
    Calls Try.prog 61 #[.slice A 2 c] w fun e w' => e = .returned (.int .u16 (cks (xs ++ ys) : Int)) ∧ w' = w := by
  have h := sum_any [xs, ys] A c w hA (by simp) (by simp; omega)
  have e1 : [xs, ys].flatten = xs ++ ys := by simp
  rw [e1] at h
  exact h
theorem sum1_any (xs : List UInt8) (A : Option Addr) (c : Nat) (w : World) (hA : RP w A [xs]) (hx : xs.length ≤ 1000000) :
    Calls Try.prog 61 #[.slice A 1 c] w fun e w' => e = .returned (.int .u16 (cks xs : Int)) ∧ w' = w := by
  have h := sum_any [xs] A c w hA (by simp) (by simp; omega)
  have e1 : [xs].flatten = xs := by simp
  rw [e1] at h
  exact h
theorem keepS {w w' : World} {a g : Nat} {p : Pk} {B : Option Addr} {d : Nat} {v : Value} (hb : Below w.heap.size w w') (hX : Blk w a 52 (pkc p B d)) (hW : Blk w g 91 [v]) :
    w'.cell? ⟨a, 3, none⟩ = some (.int .i64 p.fl.proto) ∧ w'.cell? ⟨a, 4, none⟩ = some (.int .u32 p.fl.src) ∧ w'.cell? ⟨a, 6, none⟩ = some (.int .u32 p.fl.dst) ∧ w'.cell? ⟨g, 0, none⟩ = some v :=
  ⟨(hX.kept hb).cell 3, (hX.kept hb).cell 4, (hX.kept hb).cell 6, (hW.kept hb).cell 0⟩
theorem put_i (base c at_ n L : Nat) (at' n' : Int) (v : Value) (l : List UInt8) (w : World) (ho : w.ownsRow base 5 1 v L (l.map bv)) (hL : l.length = L) (hl : L ≤ 2000000) (ha : at_ + 1 < L) (hn : n ≤ 65535) (ea : at' = (at_ : Int)) (en : n' = (n : Int)) :
    Calls Try.prog 60 #[v, .int .i64 at', .int .u16 n'] w fun e w' => ∃ x, e = .returned x ∧
      w'.ownsRow base 5 1 v L (((l.set at_ (UInt8.ofNat (n / 256))).set (at_ + 1) (UInt8.ofNat n)).map bv) ∧ w.grownBy w' v.ownBlock := by
  subst ea en hL
  obtain ⟨gb, cb, rfl, h1, h2⟩ := own_headE ho (by omega)
  exact put_any base gb cb at_ n l w ho hl ha hn
theorem set2 (a b c d e f x y x' y' : UInt8) (r : List UInt8) : (([a, b, c, d, e, f, x, y] ++ r).set 6 x').set 7 y' = [a, b, c, d, e, f, x', y'] ++ r := rfl
theorem segU_set (p : Pk) (c : Nat) : ((segU p 0).set 6 (UInt8.ofNat (c / 256))).set 7 (UInt8.ofNat c) = segU p c := by
  have e : ∀ k, segU p k = [UInt8.ofNat (p.fl.sp.toNat / 256), UInt8.ofNat p.fl.sp.toNat, UInt8.ofNat (p.fl.dp.toNat / 256), UInt8.ofNat p.fl.dp.toNat, UInt8.ofNat ((8 + p.data.length) / 256), UInt8.ofNat (8 + p.data.length), UInt8.ofNat (k / 256), UInt8.ofNat k] ++ p.data := fun k => by
    unfold segU; simp only [be2]; rfl
  rw [e 0, e c, set2]
theorem set16 (a b c d e f g h i j k l m n o q x y u v x' y' : UInt8) (r : List UInt8) : (([a, b, c, d, e, f, g, h, i, j, k, l, m, n, o, q, x, y, u, v] ++ r).set 16 x').set 17 y' = [a, b, c, d, e, f, g, h, i, j, k, l, m, n, o, q, x', y', u, v] ++ r := rfl
theorem segT_set (p : Pk) (c : Nat) : ((segT p 0).set 16 (UInt8.ofNat (c / 256))).set 17 (UInt8.ofNat c) = segT p c := by
  have e : ∀ k, segT p k = [UInt8.ofNat (p.fl.sp.toNat / 256), UInt8.ofNat p.fl.sp.toNat, UInt8.ofNat (p.fl.dp.toNat / 256), UInt8.ofNat p.fl.dp.toNat, UInt8.ofNat (p.seq.toNat / 16777216), UInt8.ofNat (p.seq.toNat / 65536), UInt8.ofNat (p.seq.toNat / 256), UInt8.ofNat p.seq.toNat,
      UInt8.ofNat (p.ack.toNat / 16777216), UInt8.ofNat (p.ack.toNat / 65536), UInt8.ofNat (p.ack.toNat / 256), UInt8.ofNat p.ack.toNat, 80, UInt8.ofNat p.flags.toNat, UInt8.ofNat (p.win.toNat / 256), UInt8.ofNat p.win.toNat, UInt8.ofNat (k / 256), UInt8.ofNat k, UInt8.ofNat (0 / 256), UInt8.ofNat 0] ++ p.data := fun k => by
    unfold segT; simp only [be2, be4]; rfl
  rw [e 0, e c, set16]
end Go.Proofs.Ytbhdjalpkecbeaa
