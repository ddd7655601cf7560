/- The walk of FabricBetween. -/
import Derived.Test.YtikichifdkgobaaFabricTakesWalk
import Derived.Test.YtikichifdkgobaaFabSum
namespace Go.Proofs.Ytikichifdkgobaa
set_option linter.unusedVariables false
set_option linter.unusedSimpArgs false
open Go.RowKit

theorem sumTo_le (n c : Nat) (g : Nat → Nat) (h : ∀ j, g j ≤ c) : sumTo n g ≤ n * c := by
  induction n with
  | zero => exact Nat.zero_le _
  | succ n ih => simp only [sumTo]; have := h n; rw [Nat.succ_mul]; omega
theorem take_one_more {α : Type} (l : List α) (k : Nat) (h : k < l.length) : l.take (k + 1) = l.take k ++ [l[k]] := by
  rw [List.take_add_one, List.getElem?_eq_getElem h]; rfl
/-- The fabric after k calls. -/
structure BtS (w wr : World) (B k : Nat) (last : Nat) (fl : Value) (l : List (Lh × Value)) (xs : List (List UInt8)) : Prop where
  fb : Fb wr B B (last : Int) fl l xs
  len : l.length ≤ k
  la : last ≤ k
  nodes : ∀ p ∈ l, IsN p.1.src ∧ IsN p.1.dst
  xl : ∀ x ∈ xs, x.length ≤ 1048576
  bel : Below w.heap.size w wr
theorem BtS.below {w wr w' : World} {B k last : Nat} {fl : Value} {l : List (Lh × Value)} {xs : List (List UInt8)} (h : BtS w wr B k last fl l xs) (hb : Below wr.heap.size wr w') : BtS w w' B k last fl l xs := ⟨h.fb.below hb, h.len, h.la, h.nodes, h.xl, below_call h.bel hb⟩
theorem BtS.more {w wr : World} {B k k' last : Nat} {fl : Value} {l : List (Lh × Value)} {xs : List (List UInt8)} (h : BtS w wr B k last fl l xs) (hk : k ≤ k') : BtS w wr B k' last fl l xs := ⟨h.fb, Nat.le_trans h.len hk, Nat.le_trans h.la hk, h.nodes, h.xl, h.bel⟩
theorem bt_sent {w wr w5 : World} {B k last : Nat} {fl fl5 v : Value} {l : List (Lh × Value)} {xs : List (List UInt8)} {a b : Int} {ctl : Bool} {x : List UInt8} (h : BtS w wr B k last fl l xs) (hBw : w.heap.size ≤ B) (hF : Fb w5 B B ((last : Int) + 1) fl5 (l ++ [(⟨(last : Int) + 1, a, b, ctl⟩, v)]) (xs ++ [x])) (ha : IsN a) (hb : IsN b) (hx : x.length ≤ 1048576) (hch : Chg wr w5 (fun b => b = B ∨ fl.ownBlock = some b)) : BtS w w5 B (k + 1) (last + 1) fl5 (l ++ [(⟨(last : Int) + 1, a, b, ctl⟩, v)]) (xs ++ [x]) := by
  refine ⟨by simpa using hF, by have := h.len; simp; omega, by have := h.la; omega, ?_, ?_, ?_⟩
  · intro p hp
    rcases List.mem_append.1 hp with hp | hp
    · exact h.nodes p hp
    · simp at hp; subst hp; exact ⟨ha, hb⟩
  · intro y hy
    rcases List.mem_append.1 hy with hy | hy
    · exact h.xl y hy
    · simp at hy; subst hy; exact hx
  · exact h.fb.chg_below h.bel (Nat.le_trans hBw (Nat.le_of_lt h.fb.blk.lt)) hBw hBw hch
theorem bt_take {w wr w5 : World} {B k p last : Nat} {A' : Option Addr} {kk c' : Nat} {bs_ : List UInt8} {fl : Value} {l : List (Lh × Value)} {xs : List (List UInt8)} (h : BtS w wr B k last fl l xs) (hBw : w.heap.size ≤ B) (hp : p < l.length) (hq : TakeQ wr B B (last : Int) fl l xs p A' kk c' bs_ w5) : ∃ fl5, BtS w w5 B k last fl5 (l.take p ++ l.drop (p + 1)) (xs.take p ++ xs.drop (p + 1)) := by
  obtain ⟨fl5, hF5, -, hch, -⟩ := hq
  refine ⟨fl5, hF5, ?_, h.la, fun q hq => h.nodes q (mem_cut hq), fun x hx => h.xl x (mem_cut hx), h.fb.chg_below h.bel (Nat.le_trans hBw (Nat.le_of_lt h.fb.blk.lt)) hBw hBw hch⟩
  have := h.len
  rw [take_drop_all l p hp]
  omega
def BtI (w wr : World) (B k : Nat) : Prop := ∃ last fl l xs, BtS w wr B k last fl l xs
set_option maxRecDepth 100000 in
set_option maxHeartbeats 6400000 in
theorem FabricBetween_walk (ops : List FOp) (A : Option Addr) (c : Nat) (w : World) (hA : OpsAt w A ops) (hL : OpsLe ops) (hl : ops.length ≤ 1048576) :
    Calls Try.prog 6 #[.slice A ops.length c] w fun e w' => e = .returned (.bool true) ∧ Below w.heap.size w w' := by
  have HL := Lib.hid hL
  have HA := Lib.hid hA
  clear hL hA
  go_enter Try.func6, Try.ntmps6
  go_wp2_with fail
  (with_reducible refine (alive_any _).mono ?_)
  rintro e w1 ⟨rfl, hb1⟩
  go_wp2_with fail
  (with_reducible refine (flong_any ops A c w1 (HA.out.below hb1) HL.out hl).mono ?_)
  rintro e w2 ⟨b, rfl, hbl, hb2⟩
  have hbw2 := below_call hb1 hb2
  cases b with
  | true =>
    go_wp2_with fail
    go_ret
    exact ⟨rfl, hbw2⟩
  | false =>
    clear hbl hb1 hb2
    by_cases h60 : ops.length ≤ 60
    case neg =>
      have hg : decide ((60 : Int) < (ops.length : Int)) = true := decide_eq_true (by omega)
      go_wp2_with fail
      go_ret
      exact ⟨rfl, hbw2⟩
    case pos =>
      have hg : decide ((60 : Int) < (ops.length : Int)) = false := decide_eq_false (by omega)
      go_wp2_with fail
      (with_reducible refine (fnew_any w2).mono ?_)
      rintro e w3 ⟨rfl, hF3, hb3⟩
      have hBw := hbw2.size
      have hbw3 := below_call hbw2 hb3
      generalize hBB : w2.heap.size = B at *
      clear hb3 hbw2
      have hT : BtS w w3 B 0 0 (.slice none 0 0) [] [] := ⟨hF3, Nat.le_refl _, Nat.le_refl _, (fun p hp => by cases hp), (fun p hp => by cases hp), hbw3⟩
      clear hF3 hbw3 hg
      go_wp2_with fail
      go_loopw [26] (fun i wr => ∃ k : Nat, k ≤ ops.length ∧ i = .int .i64 (k : Int) ∧ BtI w wr B k) (fun i _ => ops.length - (intOf i).toNat)
      case atStart => exact ⟨0, by omega, rfl, _, _, _, _, hT⟩
      case round =>
        obtain ⟨k, hk, rfl, last, fl, l, xs, hTk⟩ := hrel
        clear hT
        by_cases hlt : k < ops.length
        · obtain ⟨ad, rfl, B1, cb, hcc, hcb, hB1⟩ := (HA.out.below hTk.bel) k hlt
          obtain ⟨hr1, -⟩ := HL.out ops[k] (List.getElem_mem hlt)
          generalize ops[k] = o at *
          obtain ⟨kd, src, dst, ctl, nn, bytes⟩ := o
          simp only at hcc hcb hB1 hr1
          have HTK := Lib.hid hTk
          have HB1 := Lib.hid hB1
          have hal : Below wr.heap.size wr (wr.alloc (.cells #[.int .i64 kd, .int .i64 src, .int .i64 dst, .bool ctl, .int .i64 nn, .slice B1 bytes.length cb] 31)) := (Below.refl _ wr).alloc (Nat.le_refl _) _
          have hTa := HTK.out.below hal
          have hBa := HB1.out.below hal
          have hle := hTa.len
          have hla := hTa.la
          clear hB1 hTk
          by_cases hk0 : kd = 0
          · subst hk0
            go_wp2_with (with_reducible refine wl_load rfl 31 (.tmp 28) rfl _ rfl _ _ hcc Try.underlying31 rfl (by kernel_rfl) ?_)
            generalize (wr.alloc (.cells #[.int .i64 0, .int .i64 src, .int .i64 dst, .bool ctl, .int .i64 nn, .slice B1 bytes.length cb] 31)) = wa at *
            have hBa2 : B ≤ wa.heap.size := Nat.le_of_lt hTa.fb.blk.lt
            clear hcc hal
            by_cases hN : IsN src ∧ IsN dst
            · (with_reducible refine (send_any B B (last : Int) fl l xs src dst ctl bytes B1 bytes.length cb wa hN.1 hN.2 hTa.fb hBa2 (by omega) (by omega) rfl hBa hcb (by omega)).mono ?_)
              rintro e w5 ⟨rfl, gb, A5, c5, hc5, fl5, hF5, hrow5, hch5, hat5, -⟩
              have hT5 := Lib.hid (bt_sent hTa hBw hF5 hN.1 hN.2 hr1 hch5)
              clear hTa hBa hF5 hrow5 hch5 hat5
              go_wp2_with fail
              go_roundw
              case rel => exact ⟨k + 1, by omega, by go_num, last + 1, fl5, _, _, hT5.out⟩
              case measure => simp [intOf]; omega
            · (with_reducible refine (send_no _ src dst ctl _ wa hN).mono ?_)
              rintro e w5 ⟨rfl, rfl⟩
              have hT5 := Lib.hid (hTa.more (Nat.le_succ k))
              clear hTa hBa
              go_wp2_with fail
              go_roundw
              case rel => exact ⟨k + 1, by omega, by go_num, last, fl, _, _, hT5.out⟩
              case measure => simp [intOf]; omega
          · have hkf0 : (kd == 0) = false := beq_eq_false_iff_ne.2 hk0
            by_cases hk1 : kd = 1
            · subst hk1
              clear hk0
              go_wp2_with (with_reducible refine wl_load rfl 31 (.tmp 28) rfl _ rfl _ _ hcc Try.underlying31 rfl (by kernel_rfl) ?_)
              generalize (wr.alloc (.cells #[.int .i64 1, .int .i64 src, .int .i64 dst, .bool ctl, .int .i64 nn, .slice B1 bytes.length cb] 31)) = wa at *
              have hBa2 : B ≤ wa.heap.size := Nat.le_of_lt hTa.fb.blk.lt
              have hlx : xs.length = l.length := by have := hTa.fb.rows.len; simpa using this.symm
              clear hcc hal hBa
              by_cases h0 : l.length = 0
              · obtain rfl : l = [] := List.eq_nil_of_length_eq_zero h0
                (with_reducible refine (take_none B B _ fl xs nn wa hTa.fb).mono ?_)
                rintro e w5 ⟨rfl, hb5⟩
                have hT5 := Lib.hid ((hTa.below hb5).more (Nat.le_succ k))
                clear hTa
                go_wp2_with fail
                go_roundw
                case rel => exact ⟨k + 1, by omega, by go_num, last, fl, _, _, hT5.out⟩
                case measure => simp [intOf]; omega
              · have hlp : 0 < l.length := by omega
                have hpl := pl_lt nn l.length hlp
                obtain ⟨p, hp⟩ : ∃ p, pl nn l.length = p := ⟨_, rfl⟩
                rw [hp] at hpl
                obtain ⟨⟨h, v⟩, hv⟩ : ∃ hv, l[p]? = some hv := ⟨_, List.getElem?_eq_getElem hpl⟩
                obtain ⟨x, hx⟩ : ∃ x, xs[p]? = some x := ⟨_, List.getElem?_eq_getElem (by omega)⟩
                have hxl := hTa.xl x (List.mem_of_getElem? hx)
                obtain ⟨Av, kv, cv, hvv⟩ := hTa.fb.slices (h, v) (List.mem_of_getElem? hv)
                simp only at hvv
                subst hvv
                have hro := hTa.fb.rows.own p (.slice Av kv cv) x (by rw [List.getElem?_map, hv]; rfl) hx
                obtain ⟨A0, c0', e0, -, -, -⟩ := own_form hro
                injection e0 with e1 e2 e3
                subst e2
                clear hro e1 e3
                obtain ⟨hid0, hsrc0, hdst0, hctl0⟩ := h
                (with_reducible refine (take_some B B (last : Int) fl l xs nn p ⟨hid0, hsrc0, hdst0, hctl0⟩ Av x.length cv x wa hTa.fb hBa2 hlp (by omega) hp hv hx (by omega)).mono ?_)
                rintro e w5 ⟨A5, c5, rfl, hc5, htq⟩
                obtain ⟨fl5, hT5⟩ := bt_take hTa hBw hpl htq
                have hT6 := Lib.hid (hT5.more (Nat.le_succ k))
                clear hTa htq hT5 hv hx hp
                go_wp2_with fail
                go_roundw
                case rel => exact ⟨k + 1, by omega, by go_num, last, fl5, _, _, hT6.out⟩
                case measure => simp [intOf]; omega
            · have hkf1 : (kd == 1) = false := beq_eq_false_iff_ne.2 hk1
              have hT5 := Lib.hid (hTa.more (Nat.le_succ k))
              clear hk0 hk1 hTa hBa
              go_wp2_with (with_reducible refine wl_load rfl 31 (.tmp 28) rfl _ rfl _ _ hcc Try.underlying31 rfl (by kernel_rfl) ?_)
              go_roundw
              case rel => exact ⟨k + 1, by omega, by go_num, last, fl, _, _, hT5.out⟩
              case measure => simp [intOf]; omega
        · obtain rfl : k = ops.length := by omega
          have hlen60 : l.length ≤ 60 := by have := hTk.len; omega
          obtain ⟨g, hgd⟩ : ∃ g : Nat → Nat → Nat, ∀ f t : Nat, g f t = (btw l (f : Int) (t : Int)).length := ⟨_, fun _ _ => rfl⟩
          have hg60 : ∀ f t, g f t ≤ 60 := fun f t => by rw [hgd]; exact Nat.le_trans (btw_le l _ _) hlen60
          have hsum : sumTo 64 (fun f => sumTo 64 (g f)) = l.length := by
            have hh := sum_btw l (fun p hp => by
              obtain ⟨h1, h2⟩ := hTk.nodes p hp
              unfold IsN at h1 h2
              omega)
            rw [← hh]
            refine sumTo_congr _ _ _ (fun f _ => sumTo_congr _ _ _ (fun t _ => hgd f t))
          have hG60 : ∀ f, sumTo 64 (g f) ≤ 3840 := fun f => sumTo_le 64 60 (g f) (hg60 f)
          have HSUM := Lib.hid hsum
          have HG := Lib.hid hG60
          have HGD := Lib.hid hgd
          have HG6 := Lib.hid hg60
          have HTK := Lib.hid hTk
          clear hsum hG60 hgd hg60 hTk HA HL hlt
          obtain ⟨wA, rfl⟩ : ∃ x, x = wr := ⟨_, rfl⟩
          go_wp2_with fail
          go_loopw [6, 7] (fun n f wr2 => ∃ a s : Nat, a ≤ 64 ∧ f = .int .i64 (a : Int) ∧ n = .int .i64 (s : Int) ∧ Hid (s = sumTo a (fun f => sumTo 64 (g f))) ∧ Below wA.heap.size wA wr2) (fun _ f _ => 64 - (intOf f).toNat)
          case atStart => exact ⟨0, 0, by omega, rfl, rfl, rfl, Below.refl _ _⟩
          case round =>
            obtain ⟨a, s, ha, rfl, rfl, HS, hb⟩ := hrel
            by_cases hal : a < 64
            · have hs1 : s ≤ 64 * 3840 := by
                rw [HS.out]
                exact Nat.le_trans (sumTo_le a 3840 _ HG.out) (Nat.mul_le_mul_right _ ha)
              have hda : decide ((a : Int) < 64) = true := decide_eq_true (by omega)
              go_wp2_with fail
              go_loopw [6, 8] (fun n t wr3 => ∃ b r : Nat, b ≤ 64 ∧ t = .int .i64 (b : Int) ∧ n = .int .i64 (r : Int) ∧ Hid (r = s + sumTo b (g a)) ∧ Below wA.heap.size wA wr3) (fun _ t _ => 64 - (intOf t).toNat)
              case atStart => exact ⟨0, s, by omega, rfl, rfl, rfl, hb⟩
              case round =>
                obtain ⟨b, r, hbb, rfl, rfl, HR, hb3⟩ := hrel
                by_cases hbl : b < 64
                · go_wp2_with fail
                  (with_reducible refine (between_any B B (last : Int) fl l xs (a : Int) (b : Int) _ (HTK.out.fb.below hb3) (by omega)).mono ?_)
                  rintro e w9 ⟨⟨A9, c9, rfl, -⟩, hb9⟩
                  have hb4 := below_call hb3 hb9
                  have hr2 : r ≤ 64 * 3840 + 3840 := by
                    rw [HR.out]
                    have := sumTo_le b 60 (g a) (HG6.out a)
                    have h2 : b * 60 ≤ 64 * 60 := Nat.mul_le_mul_right _ hbb
                    omega
                  have hgab := HGD.out a b
                  have hg6 := HG6.out a b
                  have HR2 : Hid (r + g a b = s + sumTo (b + 1) (g a)) := by
                    show _ = _
                    rw [HR.out]
                    simp only [sumTo]
                    omega
                  rw [← hgab]
                  generalize g a b = gab at *
                  clear hgab hb3 hb9
                  go_wp2_with fail
                  go_roundw
                  case rel => exact ⟨b + 1, r + gab, by omega, by go_num, by go_num, HR2, hb4⟩
                  case measure => simp [intOf]; omega
                · obtain rfl : b = 64 := by omega
                  have HS2 : Hid (r = sumTo (a + 1) (fun f => sumTo 64 (g f))) := by
                    show _ = _
                    rw [HR.out, HS.out]
                    rfl
                  go_wp2_with fail
                  go_roundw
                  case rel => exact ⟨a + 1, r, by omega, by go_num, rfl, HS2, hb3⟩
                  case measure => simp [intOf]; omega
            · obtain rfl : a = 64 := by omega
              have hsl : s = l.length := by rw [HS.out]; exact HSUM.out
              subst hsl
              have hFe := HTK.out.fb.below hb
              have hxl : ∀ x ∈ xs, x.length ≤ 4000000 := fun x hx => Nat.le_trans (HTK.out.xl x hx) (by omega)
              go_wp2_with fail
              (with_reducible refine (waiting_any B B (last : Int) fl l xs wr hFe (by omega) hxl).mono ?_)
              rintro e wW ⟨⟨AW, cW, rfl, hW⟩, hbW⟩
              obtain ⟨l2, hl2, hm2, ho2, hr2⟩ := hW
              have hbW2 := below_call hb hbW
              have HM : Hid (∀ k (h : k < l.length) (h2 : k < l2.length), l2[k].1 = l[k].1) := fun k h h2 => by
                have e := congrArg (·[k]?) hm2
                simp only [List.take_length, List.getElem?_map, List.getElem?_eq_getElem h, List.getElem?_eq_getElem h2, Option.map_some] at e
                exact Option.some.inj e
              have HO := Lib.hid ho2
              have HR := Lib.hid hr2
              have HL2 := Lib.hid hl2
              clear ho2 hr2 hl2 hm2 hFe hxl
              go_wp2_with fail
              go_loopw [69] (fun i wx => ∃ k : Nat, k ≤ l.length ∧ i = .int .i64 (k : Int) ∧ Below wW.heap.size wW wx) (fun i _ => l.length - (intOf i).toNat)
              case atStart => exact ⟨0, by omega, rfl, Below.refl _ _⟩
              case round =>
                obtain ⟨k, hk, rfl, hbx⟩ := hrel
                have hFx := (HTK.out.fb.below hb).below (below_call hbW hbx)
                by_cases hkl : k < l.length
                · have hk2 : k < l2.length := by rw [HL2.out]; exact hkl
                  have hox := own_below HO.out hbx
                  obtain ⟨y, hoy⟩ := HR.out.mem (List.mem_map.2 ⟨l2[k], List.getElem_mem hk2, rfl⟩)
                  obtain ⟨Av, cv, hvv, -, -, -⟩ := own_form hoy
                  rcases hox.2 with ⟨hsv, h0'⟩ | ⟨g0, cap, cur, hsv, -, -, hcap, -⟩
                  · omega
                  injection hsv with e1 e2 e3
                  subst e1 e3
                  have hcl : ∀ i, i < 5 → wr.cell? ⟨g0, k * 5 + i, none⟩ = (ltc l2[k].1 l2[k].2)[i]? := fun i hi => by
                    rw [hox.cellAt (k * 5 + i) (by omega), lcs_get l2 k i hk2 hi]
                  rw [hvv, HM.out k hkl hk2] at hcl
                  have x0 := hcl 0 (by omega)
                  have x1 := hcl 1 (by omega)
                  have x2 := hcl 2 (by omega)
                  have x3 := hcl 3 (by omega)
                  have x4 := hcl 4 (by omega)
                  simp only [ltc, List.getElem?_cons_zero, List.getElem?_cons_succ, Nat.add_zero] at x0 x1 x2 x3 x4
                  obtain ⟨hd, hhd⟩ : ∃ h, l[k].1 = h := ⟨_, rfl⟩
                  have HIN : Hid (hd.id ∈ btw l hd.src hd.dst) := by
                    show _ ∈ _
                    unfold btw
                    refine List.mem_map.2 ⟨l[k], List.mem_filter.2 ⟨List.getElem_mem hkl, ?_⟩, by rw [hhd]⟩
                    rw [hhd]
                    simp
                  rw [hhd] at x0 x1 x2 x3
                  obtain ⟨id_, src_, dst_, ctl_⟩ := hd
                  simp only at x0 x1 x2 x3 HIN
                  have hBTL := btw_le l src_ dst_
                  clear hcl hvv hhd hoy hox
                  have hX : Blk (wr.alloc (.cells #[.int .i64 id_, .int .i64 src_, .int .i64 dst_, .bool ctl_, .slice Av y.length cv] 37)) wr.heap.size 37 [.int .i64 id_, .int .i64 src_, .int .i64 dst_, .bool ctl_, .slice Av y.length cv] := Blk.new wr _ _
                  have hal : Below wr.heap.size wr (wr.alloc (.cells #[.int .i64 id_, .int .i64 src_, .int .i64 dst_, .bool ctl_, .slice Av y.length cv] 37)) := (Below.refl _ wr).alloc (Nat.le_refl _) _
                  have hFa := hFx.below hal
                  have hba := below_call hbx hal
                  go_wp2_with fail
                  (with_reducible refine (between_any B B (last : Int) fl l xs src_ dst_ _ hFa (by omega)).mono ?_)
                  rintro e w9 ⟨⟨A9, c9, rfl, ho9⟩, hb9⟩
                  have hX9 := hX.kept hb9
                  have hb10 := below_call hba hb9
                  obtain ⟨z0, z1, z2, z3, z4⟩ := blk5l hX9
                  obtain ⟨A9', c9', e9, hc9, -, -⟩ := own_formS ho9
                  have HC := Lib.hid (RC.of_ownS ho9)
                  obtain ⟨ids, hids⟩ : ∃ ids, btw l src_ dst_ = ids := ⟨_, rfl⟩
                  rw [hids] at HIN hBTL e9 hc9 HC ⊢
                  injection e9 with e1 e2 e3
                  subst e1 e3
                  clear hX hal hFa hba x0 x1 x2 x3 x4 ho9 hX9 hids
                  go_wp2_with fail
                  go_loop [11, 80] (fun th i => ∃ (j : Nat) (b : Bool), j ≤ ids.length ∧ i = .int .i64 (j : Int) ∧ th = .bool b ∧ Hid (b = decide (id_ ∈ ids.take j))) (fun _ i => ids.length - (intOf i).toNat)
                  case atStart => exact ⟨0, false, by omega, rfl, rfl, by show _ = _; simp⟩
                  case round =>
                    obtain ⟨j, b, hj, rfl, rfl, HB⟩ := hrel
                    by_cases hjl : j < ids.length
                    · obtain ⟨ad9, rfl, hc9j⟩ := HC.out j (.int .i64 ids[j]) (by simp [hjl])
                      have HB2 : Hid ((b || (ids[j] == id_)) = decide (id_ ∈ ids.take (j + 1))) := by
                        show _ = _
                        have e : (id_ ∈ ids.take (j + 1)) ↔ (id_ ∈ ids.take j ∨ ids[j] = id_) := by
                          rw [take_one_more ids j hjl, List.mem_append, List.mem_singleton]
                          exact or_congr Iff.rfl eq_comm
                        rw [HB.out, decide_eq_decide.2 e, Bool.decide_or]
                        rfl
                      generalize ids[j] = v at *
                      cases b with
                      | true =>
                        have HB3 : Hid (true = decide (id_ ∈ ids.take (j + 1))) := by show _ = _; rw [← HB2.out]; rfl
                        go_wp2_with fail
                        go_round
                        case rel => exact ⟨j + 1, true, by omega, by go_num, rfl, HB3⟩
                        case measure => simp [intOf]; omega
                      | false =>
                        have hq : Hid ((v == id_) = decide (id_ ∈ ids.take (j + 1))) := by show _ = _; rw [← HB2.out]; rfl
                        go_wp2_with fail
                        go_round
                        case rel => exact ⟨j + 1, _, by omega, by go_num, rfl, hq⟩
                        case measure => simp [intOf]; omega
                    · obtain rfl : j = ids.length := by omega
                      have hbt : b = true := by rw [HB.out, List.take_length]; exact decide_eq_true HIN.out
                      subst hbt
                      go_wp2_with fail
                      go_roundw
                      case rel => exact ⟨k + 1, by omega, by go_num, hb10⟩
                      case measure => simp [intOf]; omega
                · obtain rfl : k = l.length := by omega
                  have hs64 : IntKind.i64.wrap (l.length : Int) = (l.length : Int) := IntWalk.i64_in _ (by omega)
                  have hall := below_call HTK.out.bel (below_call hb (below_call hbW hbx))
                  go_wp2_with fail
                  (with_reducible refine (flen_any B B _ fl l xs wr hFx).mono ?_)
                  rintro e w6 ⟨rfl, rfl⟩
                  go_wp2_with fail
                  go_ret
                  exact ⟨rfl, hall⟩
end Go.Proofs.Ytikichifdkgobaa
