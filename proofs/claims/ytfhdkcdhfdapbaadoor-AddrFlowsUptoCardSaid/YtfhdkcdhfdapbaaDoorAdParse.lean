/- The walk of addr.Parse. -/
import Derived.Test.YtfhdkcdhfdapbaaDoorAdText
import Derived.Test.YtfhdkcdhfdapbaaDoorEr
namespace Go.Proofs.YtfhdkcdhfdapbaaDoor
set_option linter.unusedVariables false
set_option linter.unusedSimpArgs false
open Go.RowKit Go.Sort

/-- The number of one part of an address's text. -/
def pieceV (p : List UInt8) : Option Nat := match Lib.atoiAll p with
  | .ok n => if 0 ≤ n ∧ n ≤ 255 ∧ Lib.itoa n = p then some n.toNat else none
  | _ => none
def foldV : Nat → List (List UInt8) → Option Nat
  | a, [] => some a
  | a, p :: r => match pieceV p with
    | some n => foldV ((a * 256 + n) % 4294967296) r
    | none => none
def pieces (s : ByteArray) : List ByteArray := Lib.splitB ⟨#[46]⟩ 0 (Lib.countB s ⟨#[46]⟩) s
theorem pieces_len (s : ByteArray) : (pieces s).length = Lib.countB s ⟨#[46]⟩ + 1 := by
  unfold pieces
  exact Lib.splitB_all _ (by decide) _ _ _ rfl
/-- The address of a text. -/
def parseA (s : ByteArray) : Option Nat := match foldV 0 ((pieces s).map (·.data.toList)) with
  | some a => if (pieces s).length = 4 then some a else none
  | none => none
theorem foldV_take (ps : List (List UInt8)) : ∀ (a k : Nat) (b : Nat), foldV a (ps.take k) = some b → k < ps.length → ∀ (h : k < ps.length), foldV a (ps.take (k + 1)) = match pieceV ps[k] with
    | some n => some ((b * 256 + n) % 4294967296)
    | none => none := by
  induction ps with
  | nil => intro a k b _ h; simp at h
  | cons p r ih =>
    intro a k b hb hk h
    cases k with
    | zero =>
      simp only [List.take_zero, foldV, Option.some.injEq] at hb
      subst hb
      simp only [List.take_succ_cons, List.take_zero, foldV, List.getElem_cons_zero]
    | succ k =>
      simp only [List.take_succ_cons, foldV, List.getElem_cons_succ] at hb ⊢
      cases hp : pieceV p with
      | none => rw [hp] at hb; cases hb
      | some n =>
        rw [hp] at hb
        exact ih _ k b hb (by simpa using h) (by simpa using h)
theorem foldV_none (ps : List (List UInt8)) : ∀ (a k : Nat), foldV a (ps.take k) = none → foldV a ps = none := by
  induction ps with
  | nil => intro a k h; simpa using h
  | cons p r ih =>
    intro a k h
    cases k with
    | zero => simp only [List.take_zero, foldV] at h; cases h
    | succ k =>
      simp only [List.take_succ_cons, foldV] at h ⊢
      cases hp : pieceV p with
      | none => rfl
      | some n => rw [hp] at h; exact ih _ k h
theorem splitB_size (sep : ByteArray) : ∀ (k : Nat) (s p : ByteArray), p ∈ Lib.splitB sep 0 k s → p.size ≤ s.size
  | 0, s, p, h => by
    simp only [Lib.splitB_zero, List.mem_singleton] at h
    subst h
    exact Nat.le_refl _
  | k + 1, s, p, h => by
    unfold Lib.splitB at h
    split at h
    · simp only [List.mem_singleton] at h
      subst h
      exact Nat.le_refl _
    · rcases List.mem_cons.1 h with h | h
      · subst h
        rw [ByteArray.size_extract]
        omega
      · have := splitB_size sep k _ p h
        rw [ByteArray.size_extract] at this
        omega
theorem toList_str (p : ByteArray) : p.toList = p.data.toList := ByteArray.toList_eq p
theorem atoi_syn (s : ByteArray) (hlim : s.size ≤ 281474976710656) (h1 : ∀ v, Lib.atoiAll s.data.toList ≠ .ok v) (h2 : Lib.atoiAll s.data.toList ≠ .range) (ev : Value) (w : World) (hv : w.cell? ⟨0, 0, none⟩ = some ev) (hev : ev = .nilIface ∨ ∃ te pe, ev = .iface te pe) :
    Calls Tryd.prog 35 #[.string s] w fun e w' => ∃ N, e = .returned (.tuple #[.int .i64 0, .iface 95 (.pointer (some ⟨N, 0, none⟩))]) ∧ Below w.heap.size w w' := by
  rcases hh : Lib.atoiAll s.data.toList with v | _ | _
  · exact absurd hh (h1 v)
  · have h : Calls Tryd.prog 35 #[.string s] w fun e w' => ∃ N, e = .returned (.tuple #[.int .i64 0, .iface 95 (.pointer (some ⟨N, 0, none⟩))]) ∧ w.heap.size ≤ N ∧ w'.heap[N]? = some (.cells #[.string ⟨#[65, 116, 111, 105]⟩, .string s, ev] 108 (0, 0)) ∧ Below w.heap.size w w' := Any.strconv_Atoi_syntax Tryd.laysC172 s hlim hh ev w hv hev
    exact h.mono fun e w' ⟨N, he, _, _, hb⟩ => ⟨N, he, hb⟩
  · exact absurd hh h2
/-- strconv.Atoi in one sentence. -/
theorem atoi_any (p : ByteArray) (w : World) (hs : p.size ≤ 1048576) (hG : Gd w) : Calls Tryd.prog 35 #[.string p] w fun e w' =>
    ((∃ v : Int, e = .returned (.tuple #[.int .i64 v, .nilIface]) ∧ Lib.atoiAll p.data.toList = .ok v) ∨ (∃ (v : Int) (t : TypeId) (q : Value), e = .returned (.tuple #[.int .i64 v, .iface t q]) ∧ pieceV p.data.toList = none)) ∧ Below w.heap.size w w' := by
  obtain ⟨t0, p0, h0⟩ := hG.syn
  obtain ⟨t1, p1, h1⟩ := hG.rng
  rcases h : Lib.atoiAll p.data.toList with v | _ | _
  · exact (Tryd.strconv_Atoi_ok p (by omega) v h w).mono fun e w' ⟨he, hw⟩ => ⟨.inl ⟨v, he, rfl⟩, by
      rcases hw with rfl | ⟨t, rfl⟩
      · exact Below.refl _ _
      · exact Lib.bytesWorld_below _ _ _⟩
  · exact (atoi_syn p (by omega) (by rw [h]; intro v hv; cases hv) (by rw [h]; intro hv; cases hv) (.iface t0 p0) w h0 (.inr ⟨_, _, rfl⟩)).mono fun e w' ⟨N, he, hb⟩ => ⟨.inr ⟨_, _, _, he, by unfold pieceV; rw [h]⟩, hb⟩
  · exact (Tryd.strconv_Atoi_range p (by omega) h (.iface t1 p1) w h1 (.inr ⟨_, _, rfl⟩)).mono fun e w' ⟨N, he, _, _, hb⟩ => ⟨.inr ⟨_, _, _, he, by unfold pieceV; rw [h]⟩, hb⟩
/-- What Parse answers. -/
def parseR (s : ByteArray) : Value := match parseA s with
  | some a => .tuple #[.int .u32 (a : Int), .nilIface]
  | none => .tuple #[.int .u32 0, er 1]
theorem parseR_none {s : ByteArray} (h : parseA s = none) : parseR s = .tuple #[.int .u32 0, er 1] := by unfold parseR; rw [h]
theorem parseR_some {s : ByteArray} {a : Nat} (h : parseA s = some a) : parseR s = .tuple #[.int .u32 (a : Int), .nilIface] := by unfold parseR; rw [h]
set_option maxRecDepth 100000 in
set_option maxHeartbeats 3200000 in
theorem parse_any (s : ByteArray) (w : World) (hs : s.size ≤ 1048576) (hG : Gd w) : Calls Tryd.prog 10 #[.string s] w fun e w' => e = .returned (parseR s) ∧ Below w.heap.size w w' := by
  obtain ⟨m, hm⟩ := hG.m
  have hpl := pieces_len s
  obtain ⟨n, hn⟩ : ∃ n, Lib.countB s ⟨#[46]⟩ + 1 = n := ⟨_, rfl⟩
  rw [hn] at hpl
  have hn1 : n ≤ 1048577 := by
    have := Lib.countB_le ⟨#[46]⟩ (by decide) _ s (Nat.le_refl _)
    omega
  have HSZ : Hid (∀ (k : Nat) (h : k < (pieces s).length), (pieces s)[k].size ≤ 1048576) := fun k h => by
    show _ ≤ _
    exact Nat.le_trans (splitB_size _ _ _ _ (List.getElem_mem h)) hs
  go_enter Tryd.func10, Tryd.ntmps10
  go_wp2_with fail
  (with_reducible refine (Tryd.strings_Split s ⟨#[46]⟩ m w (by omega) hm (by decide)).mono ?_)
  rintro e w1 ⟨rfl, hw1⟩
  rw [hn]
  have hblk : Blk w1 w.heap.size 9 ((pieces s).map Value.string) := by rw [hw1]; exact Blk.new w _ _
  have hb1 : Below w.heap.size w w1 := by rw [hw1]; exact (Below.refl _ w).alloc (Nat.le_refl _) _
  clear hw1 hm hn
  obtain ⟨ps, hps⟩ : ∃ ps, pieces s = ps := ⟨_, rfl⟩
  have HP : Hid (parseA s = match foldV 0 (ps.map (·.data.toList)) with | some a => if ps.length = 4 then some a else none | none => none) := by show _ = _; rw [← hps]; rfl
  rw [hps] at hpl hblk HSZ
  go_wp2_with fail
  go_loopw [5, 14] (fun av i wr => ∃ (k a : Nat), k ≤ n ∧ i = .int .i64 (k : Int) ∧ av = .int .u32 (a : Int) ∧ a < 4294967296 ∧ Hid (foldV 0 ((ps.map (·.data.toList)).take k) = some a) ∧ Hid (Below w1.heap.size w1 wr)) (fun _ i _ => n - (intOf i).toNat)
  case atStart => exact ⟨0, 0, Nat.zero_le _, rfl, rfl, by omega, rfl, Below.refl _ _⟩
  case round =>
    obtain ⟨k, a, hk, rfl, rfl, ha, HF, HB⟩ := hrel
    have hbel : Below w.heap.size w wr := below_call hb1 HB.out
    by_cases hlt : k < n
    · have hkp : k < ps.length := by omega
      have hcell := (hblk.kept HB.out).cell k
      rw [List.getElem?_map, List.getElem?_eq_getElem hkp] at hcell
      simp only [Option.map_some] at hcell
      have hsz := HSZ.out k hkp
      have HST := Lib.hid (foldV_take (ps.map (·.data.toList)) 0 k a HF.out (by simpa using hkp) (by simpa using hkp))
      rw [List.getElem_map] at HST
      generalize ps[k] = p at *
      have hq1 : (k : Int) < (n : Int) := by omega
      go_wp2_with fail
      have hGr := hG.below hbel
      (with_reducible refine (atoi_any p wr hsz hGr).mono ?_)
      rintro e w5 ⟨hor, hb5⟩
      have hG5 := hGr.below hb5
      have hb15 := Lib.hid (below_call HB.out hb5)
      have hbel5 := below_call hbel hb5
      rcases hor with ⟨v, rfl, hv⟩ | ⟨v, t, q, rfl, hv⟩
      · by_cases h0 : v < 0
        · have hd : decide (v < 0) = true := decide_eq_true h0
          have HN : Hid (parseR s = .tuple #[.int .u32 0, er 1]) := by
            exact parseR_none (by rw [HP.out, foldV_none _ 0 (k + 1) (by rw [HST.out]; unfold pieceV; rw [hv]; simp only; rw [if_neg (by omega)])])
          clear h0 hv
          go_wp2_with fail
          go_ret2
          rw [HN.out]
          exact ⟨rfl, hbel5⟩
        · have hd : decide (v < 0) = false := decide_eq_false h0
          by_cases h255 : 255 < v
          · have hd2 : decide (255 < v) = true := decide_eq_true h255
            have HN : Hid (parseR s = .tuple #[.int .u32 0, er 1]) := by
              exact parseR_none (by rw [HP.out, foldV_none _ 0 (k + 1) (by rw [HST.out]; unfold pieceV; rw [hv]; simp only; rw [if_neg (by omega)])])
            clear h0 h255 hv
            go_wp2_with fail
            go_ret2
            rw [HN.out]
            exact ⟨rfl, hbel5⟩
          · have hd2 : decide (255 < v) = false := decide_eq_false h255
            obtain ⟨j, rfl⟩ := Int.eq_ofNat_of_zero_le (show 0 ≤ v by omega)
            have hj : j < 256 := by omega
            clear h0 h255
            go_wp2_with fail
            (with_reducible refine (itoa_any j w5 hj hG5).mono ?_)
            rintro e w6 ⟨rfl, hb6⟩
            have hb16 := Lib.hid (below_call hb15.out hb6)
            have hbel6 := below_call hbel5 hb6
            by_cases he : numL j = p.data.toList
            · have hcm : (numL j == p.toList) = true := by
                rw [toList_str]
                simp [he]
              have HV : Hid (pieceV p.data.toList = some j) := by
                show _ = _
                unfold pieceV
                rw [hv]
                simp only
                rw [if_pos ⟨by omega, by omega, by rw [itoa_nat]; exact he⟩, Int.toNat_natCast]
              have HF2 : Hid (foldV 0 ((ps.map (·.data.toList)).take (k + 1)) = some ((a * 256 + j) % 4294967296)) := by
                show _ = _
                rw [HST.out, HV.out]
              have hor8 : bits .or .u32 ((a : Int) * 256 % 4294967296) (j : Int) = (((a * 256 + j) % 4294967296 : Nat) : Int) := by
                rw [show (a : Int) * 256 % 4294967296 = ((a * 256 % 4294967296 : Nat) : Int) by omega, u32_or_nat _ _ (by omega) (by omega), nat_join 8 _ _ (by omega) (by omega)]
                congr 1
                omega
              clear he hv
              go_wp2_with fail
              go_roundw
              case rel => exact ⟨k + 1, (a * 256 + j) % 4294967296, by omega, by go_num, congrArg (Value.int .u32) (by omega), by omega, HF2, hb16⟩
              case measure => simp [intOf]; omega
            · have hcm : (numL j == p.toList) = false := by
                rw [toList_str]
                exact beq_eq_false_iff_ne.2 he
              have HN : Hid (parseR s = .tuple #[.int .u32 0, er 1]) := by
                exact parseR_none (by rw [HP.out, foldV_none _ 0 (k + 1) (by rw [HST.out]; unfold pieceV; rw [hv]; simp only; rw [if_neg (by rw [itoa_nat]; exact fun h => he h.2.2)])])
              clear he hv
              go_wp2_with fail
              go_ret2
              rw [HN.out]
              exact ⟨rfl, hbel6⟩
      · have HN : Hid (parseR s = .tuple #[.int .u32 0, er 1]) := by
          exact parseR_none (by rw [HP.out, foldV_none _ 0 (k + 1) (by rw [HST.out, hv])])
        clear hv
        go_wp2_with fail
        go_ret2
        rw [HN.out]
        exact ⟨rfl, hbel5⟩
    · obtain rfl : k = n := by omega
      have hf := HF.out
      rw [List.take_of_length_le (by rw [List.length_map]; omega)] at hf
      by_cases h4 : k = 4
      · have HN : Hid (parseR s = .tuple #[.int .u32 (a : Int), .nilIface]) := by exact parseR_some (by rw [HP.out, hf]; simp only; rw [if_pos (by omega)])
        subst h4
        clear hf
        go_wp2_with fail
        go_ret2
        rw [HN.out]
        exact ⟨rfl, hbel⟩
      · have HN : Hid (parseR s = .tuple #[.int .u32 0, er 1]) := by exact parseR_none (by rw [HP.out, hf]; simp only; rw [if_neg (by omega)])
        have hd : ((k : Int) == 4) = false := beq_eq_false_iff_ne.2 (by omega)
        clear hf
        go_wp2_with fail
        go_ret2
        rw [HN.out]
        exact ⟨rfl, hbel⟩
end Go.Proofs.YtfhdkcdhfdapbaaDoor
