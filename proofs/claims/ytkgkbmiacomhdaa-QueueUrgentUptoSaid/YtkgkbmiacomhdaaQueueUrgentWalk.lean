/- The walk of QueueUrgent. -/
import Derived.Test.YtkgkbmiacomhdaaTake
import Derived.Test.YtkgkbmiacomhdaaRowsEq
import Derived.Test.YtkgkbmiacomhdaaQuAlive
namespace Go.Proofs.Ytkgkbmiacomhdaa
set_option linter.unusedVariables false
set_option linter.unusedSimpArgs false
open Go.RowKit Go.Conc

/-- The state of the round: j rows have been taken. -/
def UrgR (w w0 : World) (gl gu cu gp cp : Nat) (all : List Value) (j : Nat) (v : Value) (wx : World) : Prop :=
  ∃ us vs, wx.ownsRow w0.heap.size 42 1 v j (all.take j) ∧ La wx gl gu cu gp cp 1000 us vs ∧ us ++ vs = all.drop j ∧ ChO w0 wx ∧ Below w.heap.size w wx
theorem rp_rows {w : World} {base : Nat} {A : Option Addr} {c k : Nat} {vs : List Value} {xs : List (List UInt8)} (h : w.ownsRow base 42 1 (.slice A k c) k vs) (hv : RVs w vs xs) : RP w A xs := hv.rp (RC.of_own h)
theorem run_max (z : Int) : ∃ mz, mz = max z 0 ∧ ∀ (W : World) (ty : TypeId), (Builtin.max_ #[3, 3] ty #[.int .i64 z, .int .i64 0]).run Try.prog W = .ok (.int .i64 mz) W := by
  refine ⟨max z 0, rfl, fun W ty => ?_⟩
  by_cases h : z < 0
  · have e : max z 0 = 0 := by omega
    rw [e]
    simp [go_sem, Builtin.max_, Builtin.max2, h]
  · have e : max z 0 = z := by omega
    rw [e]
    simp [go_sem, Builtin.max_, Builtin.max2, h]
theorem urg_step {w w0 wr w1 w2 : World} {gl gu cu gp cp j k2 : Nat} {all : List Value} {got v v2 : Value} (h : UrgR w w0 gl gu cu gp cp all j got wr)
    (ht : TakeR w.heap.size wr gl gu cu gp cp 1000 (all.drop j) k2 v w1) (hg : w1.grownBy w2 got.ownBlock) (hown : w2.ownsRow w0.heap.size 42 1 v2 (j + k2) (all.take j ++ (all.drop j).take k2))
    (hl : gl < w0.heap.size ∧ gu < w0.heap.size ∧ cu < w0.heap.size ∧ gp < w0.heap.size ∧ cp < w0.heap.size) (hb : w.heap.size ≤ w0.heap.size) : UrgR w w0 gl gu cu gp cp all (j + k2) v2 w2 := by
  obtain ⟨us1, vs1, h1, h2, h3, h4, h5⟩ := h
  obtain ⟨us2, vs2, t1, t2, t3, t4, t5⟩ := ht
  have hf : ∀ b, got.ownBlock = some b → w0.heap.size ≤ b := fun b hb => (own_lt h1 hb).1
  refine ⟨us2, vs2, by rw [List.take_add]; exact hown, t2.fresh hg hl hf, by rw [t3, List.drop_drop], (h4.trans t4).fresh hg hf, ?_⟩
  exact (h5.trans t5).grown hg (by have := t4.size; have := h4.size; omega) (fun q hq => by have := hf q hq; omega)
set_option maxRecDepth 100000 in
set_option maxHeartbeats 3200000 in
theorem QueueUrgent_walk (ps qs : List (List UInt8)) (A B D : Option Addr) (c d e m : Nat) (zs : List Int) (w : World) (hA : RP w A ps) (hB : RP w B qs) (hD : RC w D (zs.map (Value.int .i64))) (hz : zs.length = m)
    (tp : total ps ≤ 1048576) (tq : total qs ≤ 1048576) (lp : ps.length ≤ 1048576) (lq : qs.length ≤ 1048576) (lz : m ≤ 1048576) (hzb : ∀ z ∈ zs, (Lit.int .i64 z).wf = true) :
    Calls Try.prog 5 #[.slice A ps.length c, .slice B qs.length d, .slice D m e] w fun e w' => e = .returned (.bool true) ∧ Below w.heap.size w w' := by
  have HZ := Lib.hid hz
  have HZB := Lib.hid hzb
  clear hz hzb
  go_enter Try.func5, Try.ntmps5
  go_wp2_with fail
  (with_reducible refine (alive_any w).mono ?_)
  rintro e w1 ⟨rfl, hb1⟩
  have hA1 := hA.below hb1
  have hB1 := hB.below hb1
  have hD1 := hD.below hb1
  by_cases h1 : 500 < ps.length
  · go_wp2_with fail
    go_ret
    exact ⟨rfl, hb1⟩
  have f1 : decide ((500 : Int) < (ps.length : Int)) = false := by simp; omega
  by_cases h2 : 500 < qs.length
  · go_wp2_with fail
    go_ret
    exact ⟨rfl, hb1⟩
  have f2 : decide ((500 : Int) < (qs.length : Int)) = false := by simp; omega
  by_cases h3 : 100 < m
  · go_wp2_with fail
    go_ret
    exact ⟨rfl, hb1⟩
  have f3 : decide ((100 : Int) < (m : Int)) = false := by simp; omega
  go_wp2_with fail
  (with_reducible refine (sum_rows ps A c w1 hA1 tp (by omega)).mono ?_)
  rintro e w2 ⟨rfl, rfl⟩
  go_wp2_with fail
  (with_reducible refine (sum_rows qs B d w2 hB1 tq (by omega)).mono ?_)
  rintro e w3 ⟨rfl, rfl⟩
  by_cases h4 : 262144 < total ps + total qs
  · go_wp2_with fail
    go_ret
    exact ⟨rfl, hb1⟩
  have f4 : decide ((262144 : Int) < (total ps : Int) + (total qs : Int)) = false := by simp; omega
  go_wp2_with fail
  (with_reducible refine (newl_good 1000 1000 w3 (by omega) rfl).mono ?_)
  rintro e w4 ⟨gl, gu, cu, gp, cp, rfl, hl4, hLB, hb4⟩
  have hw4 := below_call hb1 hb4
  have hs3 := hb1.size
  have hs4 := hb4.size
  have hLW : LaB w.heap.size gl gu cu gp cp := by unfold LaB at hLB ⊢; omega
  have hA4 := hA1.below hb4
  have hB4 := hB1.below hb4
  have hD4 := hD1.below hb4
  clear hb4 hA1 hB1 hD1
  go_wp2_with fail
  (with_reducible refine (plain_n gl gu cu gp cp 1000 qs.length [] [] qs B d w4 hl4 (by simp) (by omega) hB4 rfl (by omega) (fun x hx => by have := total_mem hx; omega)).mono ?_)
  rintro e w5 ⟨n, rfl, vs, rfl, hn5, hl5, ho5, hg5⟩
  have hch5 : ChO w4 w5 := ChO.chan hl4.p.2 hg5
  have hn5' : vs.length = qs.length := by simp at hn5; omega
  have hq5 : (vs.length : Int) = (qs.length : Int) := by omega
  have HQ5 := Lib.hid hn5'
  have hne5 : ((qs.length : Int) != (qs.length : Int)) = false := by simp
  rw [hq5]
  clear hq5 hn5 hn5'
  have hw5 : Below w.heap.size w w5 := hw4.grown hg5 hw4.size (fun k hk => by injection hk with hk; unfold LaB at hLW; omega)
  have HO5 : Hid (Own w5 w4.heap.size vs qs) := by
    have := ho5
    rw [HQ5.out, List.take_length] at this
    exact this
  have hA5 := hA4.cho hch5
  have hB5 := hB4.cho hch5
  have hD5 := hD4.cho hch5
  clear ho5 hg5 hA4 hB4 hD4 hl4
  go_wp2_with fail
  (with_reducible refine (urgent_n gl gu cu gp cp 1000 ps.length [] ([] ++ vs) ps A c w5 hl5 (by simp) (by omega) hA5 rfl (by omega) (fun x hx => by have := total_mem hx; omega)).mono ?_)
  rintro e w6 ⟨n, rfl, us, rfl, hn6, hl6, ho6, hg6⟩
  have hch6 : ChO w5 w6 := ChO.chan hl5.u.2 hg6
  have hn6' : us.length = ps.length := by simp at hn6; omega
  have hq6 : (us.length : Int) = (ps.length : Int) := by omega
  have HQ6 := Lib.hid hn6'
  have hne6 : ((ps.length : Int) != (ps.length : Int)) = false := by simp
  rw [hq6]
  clear hq6 hn6 hn6'
  have hw6 : Below w.heap.size w w6 := hw5.grown hg6 hw5.size (fun k hk => by injection hk with hk; unfold LaB at hLW; omega)
  have HO6 : Hid (Own w6 w5.heap.size us ps) := by
    have := ho6
    rw [HQ6.out, List.take_length] at this
    exact this
  have hA6 := hA5.cho hch6
  have hB6 := hB5.cho hch6
  have hD6 := hD5.cho hch6
  have HO56 := HO5.out.cho hch6
  have HALL : Hid (RVs w6 (us ++ vs) (ps ++ qs)) := HO6.out.vals.append HO56.vals
  have HL6 : Hid (La w6 gl gu cu gp cp 1000 us vs) := hl6
  have hal : (us ++ vs).length ≤ 1000 := by rw [List.length_append, HQ6.out, HQ5.out]; omega
  have HAL : Hid ((us ++ vs).length = ps.length + qs.length) := by show _ = _; rw [List.length_append, HQ6.out, HQ5.out]
  clear ho6 hg6 hA5 hB5 hD5 hl5 hl6 HO5 HO6 HO56 hch5 hch6
  go_wp2_with fail
  have HLT := Lib.hid HL6.out.lt
  have hw6s := hw6.size
  generalize hall : us ++ vs = all at *
  have HU0 : Hid (UrgR w w6 gl gu cu gp cp all 0 (.slice (some ⟨w6.heap.size, 0, none⟩) 0 0) (w6.alloc (.cells #[] 42))) :=
    ⟨us, vs, by rw [List.take_zero]; exact own_empty w6 w6.heap.size 42 w6.heap.size rfl (Nat.le_refl _), HL6.out.kept ((Below.refl _ w6).alloc (Nat.le_refl _) _), by rw [hall, List.drop_zero], ChO.below ((Below.refl _ w6).alloc (Nat.le_refl _) _), below_al hw6 _⟩
  clear hall
  obtain ⟨i0, hi, hz0, hz1, hz2⟩ := info_parts info_row
  go_loopw [9, 69] (fun got i wr => ∃ k j : Nat, k ≤ m ∧ i = .int .i64 (k : Int) ∧ j ≤ all.length ∧ Hid (UrgR w w6 gl gu cu gp cp all j got wr)) (fun _ i _ => m - (intOf i).toNat)
  case atStart => exact ⟨0, 0, Nat.zero_le _, rfl, Nat.zero_le _, HU0⟩
  case round =>
    obtain ⟨k, j, hk, rfl, hj, HU⟩ := hrel
    obtain ⟨us1, vs1, hown1, hl1, hall1, hch1, hbel1⟩ := HU.out
    by_cases hlt : k < m
    · have hkz : k < zs.length := by rw [HZ.out]; exact hlt
      obtain ⟨ad, rfl, hcell⟩ := (hD6.cho hch1) k (.int .i64 zs[k]) (by simp [hkz])
      have hwf := HZB.out zs[k] (List.getElem_mem hkz)
      generalize zs[k] = z at *
      have hsl : ∀ v ∈ all.drop j, IsSl v := fun v hv => HALL.out.sl v (List.mem_of_mem_drop hv)
      have HSL := Lib.hid hsl
      have HA1 := Lib.hid hall1
      have hdl : (all.drop j).length ≤ 1000000 := by rw [List.length_drop, HAL.out]; omega
      have HDL := Lib.hid hdl
      obtain ⟨A1, c1, rfl, hjc, hrc1, -⟩ := own_form hown1
      have HOW1 := Lib.hid hown1
      have HRC1 := Lib.hid hrc1
      have hsz1 := hch1.size
      clear hsl hall1 hdl hown1 hrc1
      go_wp2_with fail
      (with_reducible refine (take_any w.heap.size gl gu cu gp cp 1000 us1 vs1 (all.drop j) z wr hl1 hLW (by omega) HA1.out HSL.out HDL.out).mono ?_)
      rintro e w7 ⟨v, rfl, ht7⟩
      have hkm : min z.toNat (all.drop j).length ≤ 1000 := by rw [List.length_drop, HAL.out]; omega
      have hkz2 : ((min z.toNat (all.drop j).length : Nat) : Int) ≤ max z 0 := by omega
      have hjk : j + min z.toNat (all.drop j).length ≤ all.length := by rw [List.length_drop]; omega
      generalize min z.toNat (all.drop j).length = k2 at *
      obtain ⟨us2, vs2, hown7, hl7, hall7, hch7, hbel7⟩ := id ht7
      obtain ⟨A2, c2, rfl, hkc2, hrc2, hln2⟩ := own_form hown7
      have HT7 := Lib.hid ht7
      have HL2 := Lib.hid hln2
      have hown1' := own_cho HOW1.out hch7
      have hone : ∀ u ∈ (all.drop j).take k2, u.oneCell' = true := sl_one fun v hv => HSL.out v (List.mem_of_mem_take hv)
      have hbs : w6.heap.size ≤ w7.heap.size := by have := hch7.size; omega
      obtain ⟨mz, hmz, hmr⟩ := run_max z
      have hmx : decide (mz < (k2 : Int)) = false := by rw [hmz]; simp; omega
      clear hmz
      clear hall7 hln2 ht7
      go_wp2_with (at_builtin; refine wl_app _ rfl (.tmp 81) (.tmp 82) 33 rfl w6.heap.size 42 i0 (.slice none 0 0) 1 24 Try.underlying33 hi hz0 hz1 hz2 rfl (by omega) _ _ _ rfl hown1' A2 k2 c2 ((all.drop j).take k2) rfl (by rw [HL2.out, Nat.mul_one]) hrc2 hone (by unfold maxLen; omega) (by omega) hbs ?_)
      intro v3 w8 hown8 hg8 hat8
      have G : Hid (UrgR w w6 gl gu cu gp cp all (j + k2) v3 w8) := urg_step HU.out HT7.out hg8 hown8 HLT.out (by omega)
      clear hown8 hg8 hat8 hone hbs hown1' hrc2 hown7
      go_wp2_with fail
      go_roundw
      case rel => exact ⟨k + 1, j + k2, by omega, by go_num, hjk, G⟩
      case measure => simp [intOf]; omega
    · have hsl : ∀ v ∈ all.drop j, IsSl v := fun v hv => HALL.out.sl v (List.mem_of_mem_drop hv)
      have HSL := Lib.hid hsl
      have HA1 := Lib.hid hall1
      have hdl : (all.drop j).length ≤ 1000000 := by rw [List.length_drop]; omega
      have HDL := Lib.hid hdl
      obtain ⟨A1, c1, rfl, hjc, hrc1, -⟩ := own_form hown1
      have HOW1 := Lib.hid hown1
      have hsz1 := hch1.size
      clear hsl hall1 hdl hown1 hrc1
      go_wp2_with fail
      (with_reducible refine (take_any w.heap.size gl gu cu gp cp 1000 us1 vs1 (all.drop j) 2000 wr hl1 hLW (by omega) HA1.out HSL.out HDL.out).mono ?_)
      rintro e w7 ⟨v, rfl, ht7⟩
      have hkm : min (2000 : Int).toNat (all.drop j).length = all.length - j := by rw [List.length_drop]; omega
      rw [hkm] at ht7
      clear hkm
      have hjk : j + (all.length - j) = all.length := by omega
      have HJK := Lib.hid hjk
      clear hjk
      generalize hk2 : all.length - j = k2 at *
      have hk2l : k2 ≤ 1000 := by omega
      clear hk2
      obtain ⟨us2, vs2, hown7, hl7, hall7, hch7, hbel7⟩ := id ht7
      obtain ⟨A2, c2, rfl, hkc2, hrc2, hln2⟩ := own_form hown7
      have HT7 := Lib.hid ht7
      have HL2 := Lib.hid hln2
      have hown1' := own_cho HOW1.out hch7
      have hone : ∀ u ∈ (all.drop j).take k2, u.oneCell' = true := sl_one fun v hv => HSL.out v (List.mem_of_mem_take hv)
      have hbs : w6.heap.size ≤ w7.heap.size := by have := hch7.size; omega
      clear hall7 hln2 ht7
      go_wp2_with (at_builtin; refine wl_app _ rfl (.tmp 85) (.tmp 87) 33 rfl w6.heap.size 42 i0 (.slice none 0 0) 1 24 Try.underlying33 hi hz0 hz1 hz2 rfl (by omega) _ _ _ rfl hown1' A2 k2 c2 ((all.drop j).take k2) rfl (by rw [HL2.out, Nat.mul_one]) hrc2 hone (by unfold maxLen; omega) (by omega) hbs ?_)
      intro v3 w8 hown8 hg8 hat8
      have hu8 := urg_step HU.out HT7.out hg8 hown8 HLT.out (by omega)
      rw [HJK.out] at hu8
      obtain ⟨us3, vs3, hown9, hl9, hall9, hch9, hbel9⟩ := hu8
      rw [List.drop_length] at hall9
      obtain ⟨rfl, rfl⟩ := List.append_eq_nil_iff.1 hall9
      rw [List.take_length] at hown9
      have hP9 : RVs w8 all (ps ++ qs) := HALL.out.cho hch9
      obtain ⟨A3, c3, rfl, hc3, -, -⟩ := own_form hown9
      have HOW9 := Lib.hid hown9
      have hA8 := hA6.cho hch9
      have hB8 := hB6.cho hch9
      clear hown8 hg8 hat8 hone hbs hown1' hrc2 hown7 hown9 hall9 HU HT7 HOW1
      go_wp2_with fail
      (with_reducible refine (lget_none gl gu cu gp cp 1000 w8 hl9).mono ?_)
      rintro e w9 ⟨rfl, rfl⟩
      obtain ⟨ca, hra, hva⟩ := hA8.vals
      obtain ⟨cb, hrb, hvb⟩ := hB8.vals
      have hla := hva.len
      have hlb := hvb.len
      have HVA := Lib.hid hva
      have HVB := Lib.hid hvb
      have HRA := Lib.hid hra
      have HRB := Lib.hid hrb
      have HLA := Lib.hid hla
      have HLB := Lib.hid hlb
      clear hva hvb hra hrb hla hlb
      go_wp2_with (at_builtin; refine wl_app _ rfl (.tmp 95) (.tmp 96) 33 rfl w9.heap.size 42 i0 (.slice none 0 0) 1 24 Try.underlying33 hi hz0 hz1 hz2 rfl (by omega) _ _ _ rfl (own_empty w9 w9.heap.size 42 w9.heap.size rfl (Nat.le_refl _)) A ps.length c ca rfl (by rw [HLA.out, Nat.mul_one]) (HRA.out.below ((Below.refl _ w9).alloc (Nat.le_refl _) _)) (sl_one HVA.out.sl) (by unfold maxLen; omega) (by omega) (by simp) ?_)
      intro v10 w10 hown10 hg10 hat10
      have hbl10 : Below w9.heap.size w9 w10 := ((Below.refl _ w9).alloc (Nat.le_refl _) _).grown hg10 (by simp) (fun q hq => by simp [Value.ownBlock] at hq; omega)
      try simp only [Nat.zero_add, List.nil_append] at hown10
      clear hg10 hat10
      go_wp2_with (at_builtin; refine wl_app _ rfl (.tmp 97) (.tmp 98) 33 rfl w9.heap.size 42 i0 (.slice none 0 0) 1 24 Try.underlying33 hi hz0 hz1 hz2 rfl (by omega) _ _ _ rfl hown10 B qs.length d cb rfl (by rw [HLB.out, Nat.mul_one]) (HRB.out.below hbl10) (sl_one HVB.out.sl) (by unfold maxLen; omega) (by omega) hbl10.size ?_)
      intro v11 w11 hown11 hg11 hat11
      have hbl11 : Below w9.heap.size w9 w11 := hbl10.grown hg11 hbl10.size (fun q hq => (own_lt hown10 hq).1)
      obtain ⟨A5, c5, rfl, hc5, hr5, hl5⟩ := own_form hown11
      have hch11 := ChO.below hbl11
      have hRW : RP w11 A5 (ps ++ qs) := ((HVA.out.cho hch11).append (HVB.out.cho hch11)).rp hr5
      have hRG : RP w11 A3 (ps ++ qs) := (hP9.cho hch11).rp (RC.of_own (own_cho HOW9.out hch11))
      have HPQ : Hid ((ps ++ qs).length = ps.length + qs.length) := List.length_append
      have HAL2 : Hid (all.length = (ps ++ qs).length) := by show _ = _; rw [HAL.out, HPQ.out]
      have hpq : (ps ++ qs).length ≤ 4000000 := by rw [List.length_append]; omega
      clear hg11 hat11 hown10 hown11 hbl10 hr5 hl5
      have hbl := below_call hbel9 hbl11
      rw [← HPQ.out, HAL2.out]
      generalize hpp : ps ++ qs = pq at *
      go_wp2_with fail
      (with_reducible refine (rows_any pq pq A3 A5 c3 c5 w11 hRG hRW hpq).mono ?_)
      rintro e w12 ⟨rfl, q, rfl⟩
      simp only [decide_true]
      go_wp2_with fail
      go_ret
      exact ⟨rfl, below_drewN hbl q⟩
theorem QueueUrgentX_walk (x0 : List (List UInt8)) (A0 : Option Addr) (c0 : Nat) (x1 : List (List UInt8)) (A1 : Option Addr) (c1 : Nat) (x2 : List Int) (A2 : Option Addr) (c2 : Nat) (w : World) (l0 : x0.length ≤ c0) (y0 : RP w A0 x0) (n0 : total x0 + c0 + 1 ≤ 1048576)
    (l1 : x1.length ≤ c1) (y1 : RP w A1 x1) (n1 : total x1 + c1 + 1 ≤ 1048576) (l2 : x2.length ≤ c2) (y2 : RC w A2 (x2.map (Value.int .i64))) (u2 : ∀ z ∈ x2, (Lit.int .i64 z).wf = true) (n2 : c2 + 1 ≤ 1048576) :
    Calls Try.prog 5 #[.slice A0 x0.length c0, .slice A1 x1.length c1, .slice A2 x2.length c2] w fun e w' => e = .returned (.bool true) ∧ Below w.heap.size w w' :=
  QueueUrgent_walk x0 x1 A0 A1 A2 c0 c1 c2 x2.length x2 w y0 y1 y2 rfl (by omega) (by omega) (by omega) (by omega) (by omega) u2
end Go.Proofs.Ytkgkbmiacomhdaa
