/- The walk of open.change. -/
import Derived.Test.YtbhdjalpkecbeaaRw
import Derived.Test.YtbhdjalpkecbeaaUpd
namespace Go.Proofs.Ytbhdjalpkecbeaa
set_option linter.unusedVariables false
set_option linter.unusedSimpArgs false
open Go.RowKit

theorem rq_new (W : World) (t : TypeId) (m x : Nat) (hm : m ≤ 65535) (hx : x ≤ 65535) {g : Nat} (hg : g = W.heap.size) : RQ (W.alloc (.cells #[.int .u16 (m : Int), .int .u16 (x : Int)] t)) (some ⟨g, 0, none⟩) [(m, x)] := by
  subst hg
  refine RQ.mk (by simp; omega) ?_
  have h := (Blk.new W t [.int .u16 (m : Int), .int .u16 (x : Int)]).rc
  exact h
theorem update1_any (c0 m x : Nat) (A : Option Addr) (c : Nat) (w : World) (h0 : c0 ≤ 65535) (hA : RQ w A [(m, x)]) :
    Calls Try.prog 12 #[.int .u16 (c0 : Int), .slice A 1 c] w fun e w' => e = .returned (.int .u16 (upd1 c0 (m, x) : Int)) ∧ Below w.heap.size w w' :=
  update_any c0 [(m, x)] A c w h0 hA (by simp)
theorem keep4 {w w' : World} {a1 a2 a3 a4 : Addr} {u1 u2 u3 u4 : Value} (hb : Below w.heap.size w w') (h1 : w.cell? a1 = some u1) (h2 : w.cell? a2 = some u2) (h3 : w.cell? a3 = some u3) (h4 : w.cell? a4 = some u4) :
    w'.cell? a1 = some u1 ∧ w'.cell? a2 = some u2 ∧ w'.cell? a3 = some u3 ∧ w'.cell? a4 = some u4 := ⟨cell_keep hb h1, cell_keep hb h2, cell_keep hb h3, cell_keep hb h4⟩
theorem grown_belowT {w w1 w2 : World} {row : Option Nat} (h : w.grownBy w1 row) (hb : Below w1.heap.size w1 w2) : w.grownBy w2 row := h.trans ⟨hb.os, hb.tape, hb.output, hb.size, fun k hk _ => hb.block k hk⟩
theorem set_i (base g c i n x : Nat) (i' x' pr : Int) (l : List UInt8) (w : World) (hO : w.ownsRow base 5 1 (.slice (some ⟨g, 0, none⟩) n c) n (l.map bv)) (hn : l.length = n) (hl : n ≤ 4000000) (hi : i + 1 < n) (hx : x ≤ 65535) (ei : i' = (i : Int)) (ex : x' = (x : Int)) :
    Calls Try.prog 63 #[opv g n c pr, .int .i64 i', .int .u16 x'] w fun e w' => (∃ v, e = .returned v) ∧ w'.ownsRow base 5 1 (.slice (some ⟨g, 0, none⟩) n c) n ((sw l i x).map bv) ∧ w.grownBy w' (some g) := by
  subst ex
  exact set_any base g c i n x i' pr l w hO hn hl hi hx ei
theorem sw_len (l : List UInt8) (i n : Nat) : (sw l i n).length = l.length := by unfold sw; simp
theorem chg1_len (udp : Prop) [Decidable udp] (m x : Nat) (l : List UInt8) (s : Nat) : (chg1 udp m x l s).length = l.length := by unfold chg1; rw [sw_len]
theorem chgf_len (udp : Prop) [Decidable udp] (m x : Nat) (ss : List Nat) : ∀ l, (ss.foldl (chg1 udp m x) l).length = l.length := by
  induction ss with
  | nil => intro l; rfl
  | cons s r ih => intro l; rw [List.foldl_cons, ih, chg1_len]
set_option maxRecDepth 100000 in
set_option maxHeartbeats 6400000 in
theorem change_any (base g n c at_ x gs : Nat) (pr at' x' : Int) (ss : List Nat) (l : List UInt8) (w : World) (hO : w.ownsRow base 5 1 (.slice (some ⟨g, 0, none⟩) n c) n (l.map bv)) (hn : l.length = n) (hl : n ≤ 2000) (hat : at_ + 1 < n) (hx : x ≤ 65535)
    (hS : Blk w gs 3 (ss.map fun s : Nat => Value.int .i64 (s : Int))) (hgs : gs ≠ g) (hss : ∀ s ∈ ss, s + 1 < n) (hsl : ss.length ≤ 100) (ea : at' = (at_ : Int)) (ex : x' = (x : Int)) :
    Calls Try.prog 49 #[opv g n c pr, .int .i64 at', .int .u16 x', .slice (some ⟨gs, 0, none⟩) ss.length ss.length] w fun e w' => (∃ v, e = .returned v) ∧ w'.ownsRow base 5 1 (.slice (some ⟨g, 0, none⟩) n c) n ((chg (pr = 17) l at_ x ss).map bv) ∧ w.grownBy w' (some g) := by
  subst ea ex
  have HN := Lib.hid hn
  have HSS := Lib.hid hss
  have hgl : g < w.heap.size := (own_lt hO (show (Value.slice (some ⟨g, 0, none⟩) n c).ownBlock = some g by simp [Value.ownBlock])).2
  have hgsl := hS.lt
  clear hn hss
  have hB : Blk (w.alloc (.cells #[.slice (some ⟨g, 0, none⟩) n c, .int .i64 pr] 65)) w.heap.size 65 [.slice (some ⟨g, 0, none⟩) n c, .int .i64 pr] := Blk.new w _ _
  have hgr : w.grownBy (w.alloc (.cells #[.slice (some ⟨g, 0, none⟩) n c, .int .i64 pr] 65)) (some g) := ⟨rfl, rfl, rfl, by simp, fun k hk _ => Below.heap_alloc w _ k hk⟩
  have hO1 := hO.alloc (.cells #[.slice (some ⟨g, 0, none⟩) n c, .int .i64 pr] 65)
  have hS1 := hS.alloc (.cells #[.slice (some ⟨g, 0, none⟩) n c, .int .i64 pr] 65)
  clear hO hS
  go_enter Try.func49, Try.ntmps49
  go_upto_region 1 with (fail)
  generalize hwg : w.heap.size = gb at *
  generalize w.alloc (.cells #[.slice (some ⟨g, 0, none⟩) n c, .int .i64 pr] 65) = wa at *
  have b0 := hB.cell 0
  have b1_ := hB.cell 1
  simp only [List.getElem?_cons_zero, List.getElem?_cons_succ] at b0 b1_
  go_wp2_with fail
  (with_reducible refine (word_any base g n c at_ _ pr l wa hO1 HN.out (by omega) hat rfl).mono ?_)
  rintro e w1 ⟨rfl, hb1⟩
  have HM : Hid (b2 l at_ = b2 l at_) := rfl
  have hml := b2_lt l at_
  obtain ⟨m, hm⟩ : ∃ m, b2 l at_ = m := ⟨_, rfl⟩
  have HMM := Lib.hid hm
  rw [hm] at hml ⊢
  clear hm HM
  have hO2 := own_below hO1 hb1
  have hS2 := hS1.kept hb1
  have hB2 := hB.kept hb1
  have hgr2 := grown_belowT hgr hb1
  have hs1 : gb < w1.heap.size := hB2.lt
  clear hO1 hS1 hB hgr b0 b1_ hb1
  have hpb : Below w1.heap.size w1 ((w1.alloc (.cells #[.int .u16 0, .int .u16 0] 37)).setRow w1.heap.size #[.int .u16 (m : Int), .int .u16 (x : Int)]) := below_row (below_al (Below.refl _ w1) _) (Nat.le_refl _)
  have hP : Blk ((w1.alloc (.cells #[.int .u16 0, .int .u16 0] 37)).setRow w1.heap.size #[.int .u16 (m : Int), .int .u16 (x : Int)]) w1.heap.size 37 [.int .u16 (m : Int), .int .u16 (x : Int)] := (Blk.new w1 37 [.int .u16 0, .int .u16 0]).row [.int .u16 (m : Int), .int .u16 (x : Int)]
  obtain ⟨ps, hps⟩ : ∃ ps : Array Value, #[.int .u16 (m : Int), .int .u16 (x : Int)] = ps := ⟨_, rfl⟩
  have hpsz : ps.size = 2 := by rw [← hps]; rfl
  have hst : (storeCells ⟨w1.heap.size, 0, none⟩ ps.toList).run Try.prog (w1.alloc (.cells #[.int .u16 0, .int .u16 0] 37)) = .ok () ((w1.alloc (.cells #[.int .u16 0, .int .u16 0] 37)).setRow w1.heap.size ps) := by
    have h := store_all (P := Try.prog) (cs := ps.toList) (Blk.new w1 37 [.int .u16 0, .int .u16 0]) (by rw [← hps]; rfl) (by rw [← hps]; simp [Value.oneCell'])
    simpa using h
  rw [hps] at hP hpb
  have hO3 := own_below hO2 hpb
  have hS3 := hS2.kept hpb
  have hB3 := hB2.kept hpb
  have hgr3 := grown_belowT hgr2 hpb
  clear hO2 hS2 hB2 hgr2 hpb
  generalize hgp : w1.heap.size = gp at *
  go_upto_region 2 with (fail)
  generalize (w1.alloc (.cells #[.int .u16 0, .int .u16 0] 37)).setRow gp ps = w2 at *
  clear hst hps hpsz
  have b0 := hB3.cell 0
  have b1_ := hB3.cell 1
  simp only [List.getElem?_cons_zero, List.getElem?_cons_succ] at b0 b1_
  go_wp2_with fail
  (with_reducible refine (set_any base g c at_ n x _ pr l w2 hO3 HN.out (by omega) hat hx rfl).mono ?_)
  rintro e w3 ⟨⟨v3, rfl⟩, hO4, hg4⟩
  have hS4 := hS3.grown hg4 (by simp; exact hgs)
  have hB4 := hB3.grown hg4 (by simp; omega)
  have hP4 := hP.grown hg4 (by simp; omega)
  have hgr4 := hgr3.trans hg4
  have HL0 : Hid ((sw l at_ x).length = n) := by show _ = _; rw [sw_len, HN.out]
  have HCH : Hid (∀ ss, chg (pr = 17) l at_ x ss = ss.foldl (chg1 (pr = 17) m x) (sw l at_ x)) := fun ss => by unfold chg; rw [HMM.out]
  generalize sw l at_ x = l0 at *
  clear hO3 hS3 hB3 hP hgr3 hg4 b0 b1_
  go_wp2_with fail
  go_loopw [23] (fun i wr => ∃ k : Nat, k ≤ ss.length ∧ i = .int .i64 (k : Int) ∧ Hid (wr.ownsRow base 5 1 (.slice (some ⟨g, 0, none⟩) n c) n (((ss.take k).foldl (chg1 (pr = 17) m x) l0).map bv)) ∧ Hid (w.grownBy wr (some g)) ∧ Blk wr gs 3 (ss.map fun s : Nat => Value.int .i64 (s : Int)) ∧ Blk wr gb 65 [.slice (some ⟨g, 0, none⟩) n c, .int .i64 pr] ∧ Blk wr gp 37 [.int .u16 (m : Int), .int .u16 (x : Int)]) (fun i _ => ss.length - (intOf i).toNat)
  case atStart => exact ⟨0, by omega, rfl, hO4, hgr4, hS4, hB4, hP4⟩
  case round =>
    obtain ⟨k, hk, rfl, HO, HG, hSr, hBr, hPr⟩ := hrel
    clear hO4 hgr4 hS4 hB4 hP4
    by_cases hks : k < ss.length
    · have hki : (k : Int) < (ss.length : Int) := by omega
      have qk : IntKind.i64.wrap ((k : Int) + 1) = (k : Int) + 1 := IntWalk.i64_in _ (by omega)
      have hsc := hSr.cell k
      rw [List.getElem?_map, List.getElem?_eq_getElem hks] at hsc
      simp only [Option.map_some] at hsc
      have hsn := HSS.out ss[k] (List.getElem_mem hks)
      have HT := Lib.hid (take_snoc ss k hks)
      generalize ss[k] = s at *
      have HLK : Hid (((ss.take k).foldl (chg1 (pr = 17) m x) l0).length = n) := by show _ = _; rw [chgf_len, HL0.out]
      have HNX : Hid ((ss.take (k + 1)).foldl (chg1 (pr = 17) m x) l0 = chg1 (pr = 17) m x ((ss.take k).foldl (chg1 (pr = 17) m x) l0) s) := by
        show _ = _
        rw [HT.out, List.foldl_append]
        rfl
      generalize (ss.take k).foldl (chg1 (pr = 17) m x) l0 = lk at *
      have HWV := Lib.hid (show b2 lk s ≤ 65535 by have := b2_lt lk s; omega)
      go_upto_region 6 with (fail)
      clear hsc HT
      obtain ⟨wv, hwv⟩ : ∃ wv, wv = wr := ⟨_, rfl⟩
      subst hwv
      have b0 := hBr.cell 0
      have b1_ := hBr.cell 1
      have p0 := hPr.cell 0
      have p1 := hPr.cell 1
      simp only [List.getElem?_cons_zero, List.getElem?_cons_succ] at b0 b1_ p0 p1
      have hcur : Below wv.heap.size wv wv.drew := Below.drew (Below.refl _ wv)
      have hcua : Below wv.heap.size wv (wv.alloc (.cells #[.int .u16 (m : Int), .int .u16 (x : Int)] 37)).drew := Below.drew (below_al (Below.refl _ wv) _)
      have hRQ0 : RQ (wv.alloc (.cells #[.int .u16 (m : Int), .int .u16 (x : Int)] 37)).drew (some ⟨wv.heap.size, 0, none⟩) [(m, x)] := rq_new wv 37 m x (by omega) hx rfl
      obtain ⟨u, hu⟩ : ∃ u, upd1 (b2 lk s) (m, x) = u := ⟨_, rfl⟩
      have HU := Lib.hid hu
      have hul : u ≤ 65535 := by rw [← hu]; exact upd1_le _ _
      clear hu
      go_region_held3 (fun w' => w'.cell? ⟨gb, 0, none⟩ = some (.slice (some ⟨g, 0, none⟩) n c) ∧ w'.cell? ⟨gb, 1, none⟩ = some (.int .i64 pr) ∧ w'.cell? ⟨gp, 0, none⟩ = some (.int .u16 (m : Int)) ∧ w'.cell? ⟨gp, 1, none⟩ = some (.int .u16 (x : Int)))
        (first | with_reducible exact ⟨b0, b1_, p0, p1⟩ | with_reducible exact keep4 hcur b0 b1_ p0 p1 | with_reducible exact keep4 hcua b0 b1_ p0 p1 | with_reducible exact keep4 (below_al hcur _) b0 b1_ p0 p1 | with_reducible exact keep4 hc7 b0 b1_ p0 p1)
        (first
          | (go_at_call 62; (with_reducible refine (word_any base g n c s _ pr lk _ (own_below HO.out hcur) HLK.out (by omega) hsn rfl).mono ?_); rintro e w6 ⟨rfl, hb6⟩; replace hcur := below_call hcur hb6; have hRQ := rq_new w6 37 m x (by omega) hx rfl)
          | (go_at_call 62; (with_reducible refine (word_any base g n c s _ pr lk _ (own_below HO.out hcua) HLK.out (by omega) hsn rfl).mono ?_); rintro e w6 ⟨rfl, hb6⟩; replace hcua := below_call hcua hb6; have hRQ := hRQ0.below hb6)
          | (go_at_call 12; (with_reducible refine (update1_any (b2 lk s) m x _ 1 _ HWV.out hRQ).mono ?_); rintro e w7 ⟨rfl, hb7⟩; rw [HU.out]; have hc7 := below_call (below_al hcur _) hb7)
          | (go_at_call 12; (with_reducible refine (update1_any (b2 lk s) m x _ 1 _ HWV.out hRQ).mono ?_); rintro e w7 ⟨rfl, hb7⟩; rw [HU.out]; have hc7 := below_call hcua hb7))
      all_goals
        have hO7 := own_below HO.out hc7
        have hS7 := hSr.kept hc7
        have hB7 := hBr.kept hc7
        have hP7 := hPr.kept hc7
        have HG7 := Lib.hid (grown_belowT HG.out hc7)
        have HCE : Hid (chg1 (pr = 17) m x lk s = sw lk s (if u = 0 ∧ s ≠ 10 ∧ pr = 17 then 65535 else u)) := by
          show chg1 _ _ _ _ _ = _
          unfold chg1
          rw [HU.out]
        clear HO hSr hBr hPr HG hcur hcua hb7 b0 b1_ p0 p1 hRQ0 hRQ hb6
        have b0 := hB7.cell 0
        have b1_ := hB7.cell 1
        simp only [List.getElem?_cons_zero, List.getElem?_cons_succ] at b0 b1_
        have HB7 := Lib.hid hB7
        have HP7 := Lib.hid hP7
        have HS7 := Lib.hid hS7
        have HO7 := Lib.hid hO7
        clear hB7 hP7 hS7 hO7 hc7
        by_cases hz : u = 0 ∧ s ≠ 10 ∧ pr = 17
        · obtain ⟨rfl, hs10, rfl⟩ := hz
          have hsb : ((s : Int) != 10) = true := by simp; omega
          rw [if_pos ⟨rfl, hs10, rfl⟩] at HCE
          clear hs10
          go_wp2_with fail
          (with_reducible refine (set_i base g c s n 65535 _ 65535 (17 : Int) lk w7 HO7.out HLK.out (by omega) hsn (by omega) rfl rfl).mono ?_)
          rintro e w8 ⟨⟨v8, rfl⟩, hO8, hg8⟩
          have HO8 : Hid (w8.ownsRow base 5 1 (.slice (some ⟨g, 0, none⟩) n c) n (((ss.take (k + 1)).foldl (chg1 ((17 : Int) = 17) m x) l0).map bv)) := by
            show w8.ownsRow _ _ _ _ _ _
            rw [HNX.out, HCE.out]
            exact hO8
          have HS8 := HS7.out.grown hg8 (by simp; exact hgs)
          have HB8 := HB7.out.grown hg8 (by simp; omega)
          have HP8 := HP7.out.grown hg8 (by simp; omega)
          have HG8 := Lib.hid (HG7.out.trans hg8)
          clear hO8 hg8 b0 b1_
          go_wp2_with fail
          go_roundw
          case rel => exact ⟨k + 1, by omega, by go_num, HO8, HG8, HS8, HB8, HP8⟩
          case measure => simp [intOf]; omega
        · have HZ := Lib.hid hz
          rw [if_neg hz] at HCE
          clear hz
          by_cases hu0 : u = 0
          · subst hu0
            by_cases hs10 : s = 10
            · have hsb : ((s : Int) != 10) = false := by simp; omega
              clear hs10
              go_wp2_with fail
              (with_reducible refine (set_i base g c s n 0 _ 0 pr lk w7 HO7.out HLK.out (by omega) hsn (by omega) rfl rfl).mono ?_)
              rintro e w8 ⟨⟨v8, rfl⟩, hO8, hg8⟩
              have HO8 : Hid (w8.ownsRow base 5 1 (.slice (some ⟨g, 0, none⟩) n c) n (((ss.take (k + 1)).foldl (chg1 (pr = 17) m x) l0).map bv)) := by
                show w8.ownsRow _ _ _ _ _ _
                rw [HNX.out, HCE.out]
                exact hO8
              have HS8 := HS7.out.grown hg8 (by simp; exact hgs)
              have HB8 := HB7.out.grown hg8 (by simp; omega)
              have HP8 := HP7.out.grown hg8 (by simp; omega)
              have HG8 := Lib.hid (HG7.out.trans hg8)
              clear hO8 hg8 b0 b1_
              go_wp2_with fail
              go_roundw
              case rel => exact ⟨k + 1, by omega, by go_num, HO8, HG8, HS8, HB8, HP8⟩
              case measure => simp [intOf]; omega
            · have hsb : ((s : Int) != 10) = true := by simp; omega
              have hpr : (pr == 17) = false := by
                rw [beq_eq_false_iff_ne]
                intro h
                exact HZ.out ⟨rfl, hs10, h⟩
              clear hs10
              go_wp2_with fail
              (with_reducible refine (set_i base g c s n 0 _ 0 pr lk w7 HO7.out HLK.out (by omega) hsn (by omega) rfl rfl).mono ?_)
              rintro e w8 ⟨⟨v8, rfl⟩, hO8, hg8⟩
              have HO8 : Hid (w8.ownsRow base 5 1 (.slice (some ⟨g, 0, none⟩) n c) n (((ss.take (k + 1)).foldl (chg1 (pr = 17) m x) l0).map bv)) := by
                show w8.ownsRow _ _ _ _ _ _
                rw [HNX.out, HCE.out]
                exact hO8
              have HS8 := HS7.out.grown hg8 (by simp; exact hgs)
              have HB8 := HB7.out.grown hg8 (by simp; omega)
              have HP8 := HP7.out.grown hg8 (by simp; omega)
              have HG8 := Lib.hid (HG7.out.trans hg8)
              clear hO8 hg8 b0 b1_
              go_wp2_with fail
              go_roundw
              case rel => exact ⟨k + 1, by omega, by go_num, HO8, HG8, HS8, HB8, HP8⟩
              case measure => simp [intOf]; omega
          · have hub : ((u : Int) == 0) = false := by simp; omega
            clear hu0
            go_wp2_with fail
            (with_reducible refine (set_i base g c s n u _ (u : Int) pr lk w7 HO7.out HLK.out (by omega) hsn (by omega) rfl rfl).mono ?_)
            rintro e w8 ⟨⟨v8, rfl⟩, hO8, hg8⟩
            have HO8 : Hid (w8.ownsRow base 5 1 (.slice (some ⟨g, 0, none⟩) n c) n (((ss.take (k + 1)).foldl (chg1 (pr = 17) m x) l0).map bv)) := by
              show w8.ownsRow _ _ _ _ _ _
              rw [HNX.out, HCE.out]
              exact hO8
            have HS8 := HS7.out.grown hg8 (by simp; exact hgs)
            have HB8 := HB7.out.grown hg8 (by simp; omega)
            have HP8 := HP7.out.grown hg8 (by simp; omega)
            have HG8 := Lib.hid (HG7.out.trans hg8)
            clear hO8 hg8 b0 b1_
            go_wp2_with fail
            go_roundw
            case rel => exact ⟨k + 1, by omega, by go_num, HO8, HG8, HS8, HB8, HP8⟩
            case measure => simp [intOf]; omega
    · obtain rfl : k = ss.length := by omega
      rw [List.take_length] at HO
      have HF := Lib.hid HO.out
      clear HO
      go_wp2_with fail
      refine bodyPost_end (results_none rfl _ _ _) rfl ?_
      refine ⟨⟨_, rfl⟩, ?_, HG.out⟩
      rw [HCH.out]
      exact HF.out
end Go.Proofs.Ytbhdjalpkecbeaa
