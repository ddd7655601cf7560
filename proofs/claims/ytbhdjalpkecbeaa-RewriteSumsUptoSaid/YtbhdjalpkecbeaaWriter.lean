/- The walks of the writer of numbers. -/
import Derived.Test.YtbhdjalpkecbeaaGrow
import Derived.Test.YtbhdjalpkecbeaaU8
import Derived.Test.YtbhdjalpkecbeaaPktPure
import Derived.WalkSpells
namespace Go.Proofs.Ytbhdjalpkecbeaa
set_option linter.unusedVariables false
set_option linter.unusedSimpArgs false
open Go.RowKit

/-- A writer at block g holds bytes l. -/
structure Wr (w : World) (g : Nat) (l : List UInt8) (v : Value) : Prop where
  blk : Blk w g 91 [v]
  own : w.ownsRow (g + 1) 5 1 v l.length (l.map bv)
theorem Wr.keep {w w' : World} {g : Nat} {l : List UInt8} {v : Value} (h : Wr w g l v) (hb : Below w.heap.size w w') : Wr w' g l v := ⟨h.blk.kept hb, own_below h.own hb⟩
def wtwo (ns : List Nat) : List UInt8 := ns.flatMap (be 2)
def wfour (ns : List Nat) : List UInt8 := ns.flatMap (be 4)
theorem wtwo_snoc (ns : List Nat) (k : Nat) (h : k < ns.length) : wtwo (ns.take (k + 1)) = wtwo (ns.take k) ++ be 2 ns[k] := by
  rw [take_snoc _ _ h]; unfold wtwo; rw [List.flatMap_append]; simp
theorem wfour_snoc (ns : List Nat) (k : Nat) (h : k < ns.length) : wfour (ns.take (k + 1)) = wfour (ns.take k) ++ be 4 ns[k] := by
  rw [take_snoc _ _ h]; unfold wfour; rw [List.flatMap_append]; simp
theorem wtwo_len (ns : List Nat) : (wtwo ns).length = 2 * ns.length := by
  induction ns with
  | nil => rfl
  | cons n r ih => unfold wtwo at *; rw [List.flatMap_cons, List.length_append, be_len, ih, List.length_cons]; omega
theorem wfour_len (ns : List Nat) : (wfour ns).length = 4 * ns.length := by
  induction ns with
  | nil => rfl
  | cons n r ih => unfold wfour at *; rw [List.flatMap_cons, List.length_append, be_len, ih, List.length_cons]; omega

/-- A writer at block g holds bytes l; its row lies elsewhere, from base on. -/
structure WrC (w : World) (base g : Nat) (l : List UInt8) (v : Value) : Prop where
  blk : Blk w g 91 [v]
  own : w.ownsRow base 5 1 v l.length (l.map bv)
  ne : v.ownBlock ≠ some g
  hb : base ≤ g
theorem own_up {w : World} {g : Nat} {e : TypeId} {size n : Nat} {v : Value} {xs : List Value} (h : w.ownsRow g e size v n xs) (hne : v.ownBlock ≠ some g) : w.ownsRow (g + 1) e size v n xs := by
  refine ⟨h.1, ?_⟩
  rcases h.2 with hn | ⟨k, cap, cur, hv, hbg, r⟩
  · exact .inl hn
  · refine .inr ⟨k, cap, cur, hv, ?_, r⟩
    have : k ≠ g := fun e => hne (by rw [hv, e]; rfl)
    omega
theorem Wr.core {w : World} {g : Nat} {l : List UInt8} {v : Value} (h : Wr w g l v) : WrC w g g l v := ⟨h.blk, own_weaken h.own (by omega), fun e => own_ne' (by omega) h.own e.symm, Nat.le_refl _⟩
theorem WrC.up {w : World} {g : Nat} {l : List UInt8} {v : Value} (h : WrC w g g l v) : Wr w g l v := ⟨h.blk, own_up h.own h.ne⟩
theorem WrC.alloc {w : World} {base g : Nat} {l : List UInt8} {v : Value} (h : WrC w base g l v) (o : Obj) : WrC (w.alloc o) base g l v := ⟨h.blk.alloc o, h.own.alloc o, h.ne, h.hb⟩
theorem WrC.keep {w w' : World} {base g : Nat} {l : List UInt8} {v : Value} (h : WrC w base g l v) (hb : Below w.heap.size w w') : WrC w' base g l v := ⟨h.blk.kept hb, own_below h.own hb, h.ne, h.hb⟩
theorem WrC.nes {w : World} {base g : Nat} {l : List UInt8} {v : Value} (h : WrC w base g l v) : v.ownBlock ≠ some w.heap.size := fun e => by have := (own_lt h.own e).2; omega

set_option maxHeartbeats 1600000 in
theorem two_core (base g : Nat) (l : List UInt8) (v : Value) (ns : List Nat) (gA : Nat) (c : Nat) (w : World) (hw : WrC w base g l v) (hl : l.length ≤ 2000000) (hA : Blk w gA 3 (ns.map fun n : Nat => Value.int .i64 (n : Int))) (hg : gA ≠ g) (hv : v.ownBlock ≠ some gA) (hn : ns.length ≤ 100) (hns : ∀ n ∈ ns, n ≤ 65535) :
    Calls Try.prog 58 #[.pointer (some ⟨g, 0, none⟩), .slice (some ⟨gA, 0, none⟩) ns.length c] w fun e w' => ∃ v' x, e = .returned x ∧ WrC w' base g (l ++ wtwo ns) v' ∧ Below base w w' := by
  obtain ⟨i0, hi, hz0, hz1, hz2⟩ := info_parts info_u8
  have HNS := Lib.hid hns
  clear hns
  go_enter Try.func58, Try.ntmps58
  go_wp2_with fail
  go_loopw [8] (fun i wr => ∃ (k : Nat) (v' : Value), k ≤ ns.length ∧ i = .int .i64 (k : Int) ∧ WrC wr base g (l ++ wtwo (ns.take k)) v' ∧ Blk wr gA 3 (ns.map fun n : Nat => Value.int .i64 (n : Int)) ∧ v'.ownBlock ≠ some gA ∧ Below base w wr) (fun i _ => ns.length - (intOf i).toNat)
  case atStart => exact ⟨0, v, Nat.zero_le _, rfl, by rw [List.take_zero]; simpa [wtwo] using hw, hA, hv, Below.refl _ _⟩
  case round =>
    obtain ⟨k, v', hk, rfl, hW, hB, hne, hb⟩ := hrel
    by_cases hlt : k < ns.length
    · have cN := hB.cell k
      rw [List.getElem?_map, List.getElem?_eq_getElem hlt] at cN
      have hnk := HNS.out ns[k] (List.getElem_mem hlt)
      have HS := Lib.hid (wtwo_snoc ns k hlt)
      have hll : (l ++ wtwo (ns.take k)).length ≤ 2000200 := by rw [List.length_append, wtwo_len, List.length_take]; omega
      generalize hq : l ++ wtwo (ns.take k) = q at *
      have HQ := Lib.hid hq
      clear hq
      generalize ns[k] = n at *
      simp only [Option.map_some] at cN
      obtain ⟨hW1, hW2, hW3, hW4⟩ := hW
      have cW := hW1.cell 0
      simp only [List.getElem?_cons_zero] at cW
      have fW := hW1.frozen 0
      have hgl := hW1.lt
      have hgAl := hB.lt
      obtain ⟨x, he, HX⟩ : ∃ x : UInt8, (n : Int) / 256 = (x.toNat : Int) ∧ Hid (x = UInt8.ofNat (n / 256)) := ⟨_, by rw [UInt8.toNat_ofNat']; omega, rfl⟩
      obtain ⟨y, hf, HY⟩ : ∃ y : UInt8, (n : Int) % 256 = (y.toNat : Int) ∧ Hid (y = UInt8.ofNat n) := ⟨_, by rw [UInt8.toNat_ofNat']; omega, rfl⟩
      obtain ⟨B, cB, rfl, hcB, -, -⟩ := own_form hW2
      go_wp2_with (at_builtin; refine wl_app _ rfl (.tmp 15) (.tmp 21) 91 rfl base 5 i0 (.int .u8 0) 1 1 Try.underlying91 hi hz0 hz1 hz2 rfl (by omega) (.slice B q.length cB) q.length (q.map bv) rfl (hW2.alloc _) (some ⟨wr.heap.size, 0, none⟩) 2 2 [.int .u8 (x.toNat : Int), .int .u8 (y.toNat : Int)] rfl rfl (rc_new wr _ _) (by simp [Value.oneCell']) (by unfold maxLen; omega) (by omega) (by simp; omega) ?_)
      intro v2 w2 hown2 hg2 hat2
      have hgr := hg2
      have hB2 : Blk w2 gA 3 _ := (hB.alloc _).grown hg2 (fun e => hne e.symm)
      have hW1' := (hW1.alloc _).grown hg2 (fun e => hW3 e.symm)
      have hb2 : Below base w w2 := (hb.alloc (by omega) _).grown hg2 (by simp; omega) (fun b e => by have := (own_lt hW2 e).1; omega)
      have hne2 : v2.ownBlock ≠ some gA := by
        rcases hat2 with e | e
        · rw [e]; exact hne
        · rw [e]; intro e2; injection e2 with e2; simp at e2; omega
      have hown3 : w2.ownsRow base 5 1 v2 (q ++ [x, y]).length ((q ++ [x, y]).map bv) := by rw [List.length_append, List.map_append]; exact hown2
      have hW3' : v2.ownBlock ≠ some g := by
        rcases hat2 with e | e
        · rw [e]; exact hW3
        · rw [e]; intro e2; injection e2 with e2; simp at e2; omega
      clear hW1 hW2 hW3 hg2 hat2 hgr cW fW cN hown2 hB hne hb
      obtain ⟨A2, c2, rfl, -, -, -⟩ := own_form hown3
      have fW := hW1'.frozen 0
      have cW := hW1'.cell 0
      simp only [List.getElem?_cons_zero] at cW
      have hgl2 := hW1'.lt
      go_wp2_with fail
      go_roundw
      case rel =>
        refine ⟨k + 1, _, by omega, by go_num, ⟨?_, ?_, hW3', hW4⟩, hB2.far (by simpa using hg) _, hne2, hb2.setCell hW4 _⟩
        · simpa using hW1'.set_ 0 (.slice A2 (q ++ [x, y]).length c2)
        · rw [HS.out, be2, ← HX.out, ← HY.out, ← List.append_assoc, HQ.out]
          exact hown3.kept (grown_set _ g 0 _) (.inr hW3')
      case measure => simp [intOf]; omega
    · obtain rfl : k = ns.length := by omega
      rw [List.take_length] at hW
      go_wp2_with fail
      refine bodyPost_end (results_none rfl _ _ _) rfl ?_
      exact ⟨v', _, rfl, hW, hb⟩

set_option maxHeartbeats 1600000 in
theorem four_core (base g : Nat) (l : List UInt8) (v : Value) (ns : List Nat) (gA : Nat) (c : Nat) (w : World) (hw : WrC w base g l v) (hl : l.length ≤ 2000000) (hA : Blk w gA 23 (ns.map fun n : Nat => Value.int .u32 (n : Int))) (hg : gA ≠ g) (hv : v.ownBlock ≠ some gA) (hn : ns.length ≤ 100) (hns : ∀ n ∈ ns, n ≤ 4294967295) :
    Calls Try.prog 59 #[.pointer (some ⟨g, 0, none⟩), .slice (some ⟨gA, 0, none⟩) ns.length c] w fun e w' => ∃ v' x, e = .returned x ∧ WrC w' base g (l ++ wfour ns) v' ∧ Below base w w' := by
  obtain ⟨i0, hi, hz0, hz1, hz2⟩ := info_parts info_u8
  have HNS := Lib.hid hns
  clear hns
  go_enter Try.func59, Try.ntmps59
  go_wp2_with fail
  go_loopw [8] (fun i wr => ∃ (k : Nat) (v' : Value), k ≤ ns.length ∧ i = .int .i64 (k : Int) ∧ WrC wr base g (l ++ wfour (ns.take k)) v' ∧ Blk wr gA 23 (ns.map fun n : Nat => Value.int .u32 (n : Int)) ∧ v'.ownBlock ≠ some gA ∧ Below base w wr) (fun i _ => ns.length - (intOf i).toNat)
  case atStart => exact ⟨0, v, Nat.zero_le _, rfl, by rw [List.take_zero]; simpa [wfour] using hw, hA, hv, Below.refl _ _⟩
  case round =>
    obtain ⟨k, v', hk, rfl, hW, hB, hne, hb⟩ := hrel
    by_cases hlt : k < ns.length
    · have cN := hB.cell k
      rw [List.getElem?_map, List.getElem?_eq_getElem hlt] at cN
      have hnk := HNS.out ns[k] (List.getElem_mem hlt)
      have HS := Lib.hid (wfour_snoc ns k hlt)
      have hll : (l ++ wfour (ns.take k)).length ≤ 2000400 := by rw [List.length_append, wfour_len, List.length_take]; omega
      generalize hq : l ++ wfour (ns.take k) = q at *
      have HQ := Lib.hid hq
      clear hq
      generalize ns[k] = n at *
      simp only [Option.map_some] at cN
      obtain ⟨hW1, hW2, hW3, hW4⟩ := hW
      have cW := hW1.cell 0
      simp only [List.getElem?_cons_zero] at cW
      have fW := hW1.frozen 0
      have hgl := hW1.lt
      have hgAl := hB.lt
      obtain ⟨a, ha, HA⟩ : ∃ x : UInt8, (n : Int) / 16777216 = (x.toNat : Int) ∧ Hid (x = UInt8.ofNat (n / 16777216)) := ⟨_, by rw [UInt8.toNat_ofNat']; omega, rfl⟩
      obtain ⟨b, hbb, HB⟩ : ∃ x : UInt8, (n : Int) / 65536 % 256 = (x.toNat : Int) ∧ Hid (x = UInt8.ofNat (n / 65536)) := ⟨_, by rw [UInt8.toNat_ofNat']; omega, rfl⟩
      obtain ⟨x, he, HX⟩ : ∃ x : UInt8, (n : Int) / 256 % 256 = (x.toNat : Int) ∧ Hid (x = UInt8.ofNat (n / 256)) := ⟨_, by rw [UInt8.toNat_ofNat']; omega, rfl⟩
      obtain ⟨y, hf, HY⟩ : ∃ y : UInt8, (n : Int) % 256 = (y.toNat : Int) ∧ Hid (y = UInt8.ofNat n) := ⟨_, by rw [UInt8.toNat_ofNat']; omega, rfl⟩
      obtain ⟨B, cB, rfl, hcB, -, -⟩ := own_form hW2
      go_wp2_with (at_builtin; refine wl_app _ rfl (.tmp 15) (.tmp 27) 91 rfl base 5 i0 (.int .u8 0) 1 1 Try.underlying91 hi hz0 hz1 hz2 rfl (by omega) (.slice B q.length cB) q.length (q.map bv) rfl (hW2.alloc _) (some ⟨wr.heap.size, 0, none⟩) 4 4 [.int .u8 (a.toNat : Int), .int .u8 (b.toNat : Int), .int .u8 (x.toNat : Int), .int .u8 (y.toNat : Int)] rfl rfl (rc_new wr _ _) (by simp [Value.oneCell']) (by unfold maxLen; omega) (by omega) (by simp; omega) ?_)
      intro v2 w2 hown2 hg2 hat2
      have hgr := hg2
      have hB2 : Blk w2 gA 23 _ := (hB.alloc _).grown hg2 (fun e => hne e.symm)
      have hW1' := (hW1.alloc _).grown hg2 (fun e => hW3 e.symm)
      have hb2 : Below base w w2 := (hb.alloc (by omega) _).grown hg2 (by simp; omega) (fun b' e => by have := (own_lt hW2 e).1; omega)
      have hne2 : v2.ownBlock ≠ some gA := by
        rcases hat2 with e | e
        · rw [e]; exact hne
        · rw [e]; intro e2; injection e2 with e2; simp at e2; omega
      have hown3 : w2.ownsRow base 5 1 v2 (q ++ [a, b, x, y]).length ((q ++ [a, b, x, y]).map bv) := by rw [List.length_append, List.map_append]; exact hown2
      have hW3' : v2.ownBlock ≠ some g := by
        rcases hat2 with e | e
        · rw [e]; exact hW3
        · rw [e]; intro e2; injection e2 with e2; simp at e2; omega
      clear hW1 hW2 hW3 hg2 hat2 hgr cW fW cN hown2 hB hne hb
      obtain ⟨A2, c2, rfl, -, -, -⟩ := own_form hown3
      have fW := hW1'.frozen 0
      have cW := hW1'.cell 0
      simp only [List.getElem?_cons_zero] at cW
      have hgl2 := hW1'.lt
      go_wp2_with fail
      go_roundw
      case rel =>
        refine ⟨k + 1, _, by omega, by go_num, ⟨?_, ?_, hW3', hW4⟩, hB2.far (by simpa using hg) _, hne2, hb2.setCell hW4 _⟩
        · simpa using hW1'.set_ 0 (.slice A2 (q ++ [a, b, x, y]).length c2)
        · rw [HS.out, be4, ← HA.out, ← HB.out, ← HX.out, ← HY.out, ← List.append_assoc, HQ.out]
          exact hown3.kept (grown_set _ g 0 _) (.inr hW3')
      case measure => simp [intOf]; omega
    · obtain rfl : k = ns.length := by omega
      rw [List.take_length] at hW
      go_wp2_with fail
      refine bodyPost_end (results_none rfl _ _ _) rfl ?_
      exact ⟨v', _, rfl, hW, hb⟩
theorem two_any (g : Nat) (l : List UInt8) (v : Value) (ns : List Nat) (gA : Nat) (c : Nat) (w : World) (hw : Wr w g l v) (hl : l.length ≤ 2000000) (hA : Blk w gA 3 (ns.map fun n : Nat => Value.int .i64 (n : Int))) (hg : gA ≠ g) (hv : v.ownBlock ≠ some gA) (hn : ns.length ≤ 100) (hns : ∀ n ∈ ns, n ≤ 65535) :
    Calls Try.prog 58 #[.pointer (some ⟨g, 0, none⟩), .slice (some ⟨gA, 0, none⟩) ns.length c] w fun e w' => ∃ v' x, e = .returned x ∧ Wr w' g (l ++ wtwo ns) v' ∧ Below g w w' := by
  refine (two_core g g l v ns gA c w hw.core hl hA hg hv hn hns).mono ?_
  rintro e w' ⟨v', x, rfl, h, hb⟩
  exact ⟨v', x, rfl, h.up, hb⟩
theorem four_any (g : Nat) (l : List UInt8) (v : Value) (ns : List Nat) (gA : Nat) (c : Nat) (w : World) (hw : Wr w g l v) (hl : l.length ≤ 2000000) (hA : Blk w gA 23 (ns.map fun n : Nat => Value.int .u32 (n : Int))) (hg : gA ≠ g) (hv : v.ownBlock ≠ some gA) (hn : ns.length ≤ 100) (hns : ∀ n ∈ ns, n ≤ 4294967295) :
    Calls Try.prog 59 #[.pointer (some ⟨g, 0, none⟩), .slice (some ⟨gA, 0, none⟩) ns.length c] w fun e w' => ∃ v' x, e = .returned x ∧ Wr w' g (l ++ wfour ns) v' ∧ Below g w w' := by
  refine (four_core g g l v ns gA c w hw.core hl hA hg hv hn hns).mono ?_
  rintro e w' ⟨v', x, rfl, h, hb⟩
  exact ⟨v', x, rfl, h.up, hb⟩
theorem Wr.alloc {w : World} {g : Nat} {l : List UInt8} {v : Value} (h : Wr w g l v) (o : Obj) : Wr (w.alloc o) g l v := ⟨h.blk.alloc o, h.own.alloc o⟩
theorem Wr.ne {w : World} {g : Nat} {l : List UInt8} {v : Value} (h : Wr w g l v) : v.ownBlock ≠ some w.heap.size := fun e => by have := (own_lt h.own e).2; omega
theorem two1 (g : Nat) (l : List UInt8) (v : Value) (a : Nat) (a' : Int) (W : World) (hW : Wr W g l v) (hl : l.length ≤ 2000000) (ha : a ≤ 65535) (ea : a' = (a : Int)) {gA : Nat} (hgA : gA = W.heap.size) :
    Calls Try.prog 58 #[.pointer (some ⟨g, 0, none⟩), .slice (some ⟨gA, 0, none⟩) 1 1] (W.alloc (.cells #[.int .i64 a'] 3)) fun e w' => ∃ v' x, e = .returned x ∧ Wr w' g (l ++ (be 2 a)) v' ∧ Below g W w' := by
  subst hgA ea
  have hB : Blk (W.alloc (.cells #[.int .i64 (a : Int)] 3)) W.heap.size 3 ([a].map fun n : Nat => Value.int .i64 (n : Int)) := Blk.new W _ _
  have hlt := hW.blk.lt
  refine (two_any g l v [a] W.heap.size 1 _ (hW.alloc _) hl hB (by omega) hW.ne (by simp) (by simp; omega)).mono ?_
  rintro e w' ⟨v', x, rfl, h1, h2⟩
  have e1 : wtwo [a] = be 2 a := by simp [wtwo]
  rw [e1] at h1
  exact ⟨v', x, rfl, h1, ((Below.refl g W).alloc (by omega) _).trans h2⟩
theorem two2 (g : Nat) (l : List UInt8) (v : Value) (a b : Nat) (a' b' : Int) (W : World) (hW : Wr W g l v) (hl : l.length ≤ 2000000) (ha : a ≤ 65535) (hb : b ≤ 65535) (ea : a' = (a : Int)) (eb : b' = (b : Int)) {gA : Nat} (hgA : gA = W.heap.size) :
    Calls Try.prog 58 #[.pointer (some ⟨g, 0, none⟩), .slice (some ⟨gA, 0, none⟩) 2 2] (W.alloc (.cells #[.int .i64 a', .int .i64 b'] 3)) fun e w' => ∃ v' x, e = .returned x ∧ Wr w' g (l ++ (be 2 a ++ be 2 b)) v' ∧ Below g W w' := by
  subst hgA ea eb
  have hB : Blk (W.alloc (.cells #[.int .i64 (a : Int), .int .i64 (b : Int)] 3)) W.heap.size 3 ([a, b].map fun n : Nat => Value.int .i64 (n : Int)) := Blk.new W _ _
  have hlt := hW.blk.lt
  refine (two_any g l v [a, b] W.heap.size 2 _ (hW.alloc _) hl hB (by omega) hW.ne (by simp) (by simp; omega)).mono ?_
  rintro e w' ⟨v', x, rfl, h1, h2⟩
  have e1 : wtwo [a, b] = be 2 a ++ be 2 b := by simp [wtwo]
  rw [e1] at h1
  exact ⟨v', x, rfl, h1, ((Below.refl g W).alloc (by omega) _).trans h2⟩
theorem two3 (g : Nat) (l : List UInt8) (v : Value) (a b c : Nat) (a' b' c' : Int) (W : World) (hW : Wr W g l v) (hl : l.length ≤ 2000000) (ha : a ≤ 65535) (hb : b ≤ 65535) (hc : c ≤ 65535) (ea : a' = (a : Int)) (eb : b' = (b : Int)) (ec : c' = (c : Int)) {gA : Nat} (hgA : gA = W.heap.size) :
    Calls Try.prog 58 #[.pointer (some ⟨g, 0, none⟩), .slice (some ⟨gA, 0, none⟩) 3 3] (W.alloc (.cells #[.int .i64 a', .int .i64 b', .int .i64 c'] 3)) fun e w' => ∃ v' x, e = .returned x ∧ Wr w' g (l ++ (be 2 a ++ be 2 b ++ be 2 c)) v' ∧ Below g W w' := by
  subst hgA ea eb ec
  have hB : Blk (W.alloc (.cells #[.int .i64 (a : Int), .int .i64 (b : Int), .int .i64 (c : Int)] 3)) W.heap.size 3 ([a, b, c].map fun n : Nat => Value.int .i64 (n : Int)) := Blk.new W _ _
  have hlt := hW.blk.lt
  refine (two_any g l v [a, b, c] W.heap.size 3 _ (hW.alloc _) hl hB (by omega) hW.ne (by simp) (by simp; omega)).mono ?_
  rintro e w' ⟨v', x, rfl, h1, h2⟩
  have e1 : wtwo [a, b, c] = be 2 a ++ be 2 b ++ be 2 c := by simp [wtwo]
  rw [e1] at h1
  exact ⟨v', x, rfl, h1, ((Below.refl g W).alloc (by omega) _).trans h2⟩
theorem four2 (g : Nat) (l : List UInt8) (v : Value) (a b : Nat) (a' b' : Int) (W : World) (hW : Wr W g l v) (hl : l.length ≤ 2000000) (ha : a ≤ 4294967295) (hb : b ≤ 4294967295) (ea : a' = (a : Int)) (eb : b' = (b : Int)) {gA : Nat} (hgA : gA = W.heap.size) :
    Calls Try.prog 59 #[.pointer (some ⟨g, 0, none⟩), .slice (some ⟨gA, 0, none⟩) 2 2] (W.alloc (.cells #[.int .u32 a', .int .u32 b'] 23)) fun e w' => ∃ v' x, e = .returned x ∧ Wr w' g (l ++ (be 4 a ++ be 4 b)) v' ∧ Below g W w' := by
  subst hgA ea eb
  have hB : Blk (W.alloc (.cells #[.int .u32 (a : Int), .int .u32 (b : Int)] 23)) W.heap.size 23 ([a, b].map fun n : Nat => Value.int .u32 (n : Int)) := Blk.new W _ _
  have hlt := hW.blk.lt
  refine (four_any g l v [a, b] W.heap.size 2 _ (hW.alloc _) hl hB (by omega) hW.ne (by simp) (by simp; omega)).mono ?_
  rintro e w' ⟨v', x, rfl, h1, h2⟩
  have e1 : wfour [a, b] = be 4 a ++ be 4 b := by simp [wfour]
  rw [e1] at h1
  exact ⟨v', x, rfl, h1, ((Below.refl g W).alloc (by omega) _).trans h2⟩
theorem two3C (base g : Nat) (l : List UInt8) (v : Value) (a b c : Nat) (a' b' c' : Int) (W : World) (hW : WrC W base g l v) (hl : l.length ≤ 2000000) (ha : a ≤ 65535) (hb : b ≤ 65535) (hc : c ≤ 65535) (ea : a' = (a : Int)) (eb : b' = (b : Int)) (ec : c' = (c : Int)) {gA : Nat} (hgA : gA = W.heap.size) :
    Calls Try.prog 58 #[.pointer (some ⟨g, 0, none⟩), .slice (some ⟨gA, 0, none⟩) 3 3] (W.alloc (.cells #[.int .i64 a', .int .i64 b', .int .i64 c'] 3)) fun e w' => ∃ v' x, e = .returned x ∧ WrC w' base g (l ++ (be 2 a ++ be 2 b ++ be 2 c)) v' ∧ Below base W w' := by
  subst hgA ea eb ec
  have hB : Blk (W.alloc (.cells #[.int .i64 (a : Int), .int .i64 (b : Int), .int .i64 (c : Int)] 3)) W.heap.size 3 ([a, b, c].map fun n : Nat => Value.int .i64 (n : Int)) := Blk.new W _ _
  have hlt := hW.blk.lt
  have hbg := hW.hb
  refine (two_core base g l v [a, b, c] W.heap.size 3 _ (hW.alloc _) hl hB (by omega) hW.nes (by simp) (by simp; omega)).mono ?_
  rintro e w' ⟨v', x, rfl, h1, h2⟩
  have e1 : wtwo [a, b, c] = be 2 a ++ be 2 b ++ be 2 c := by simp [wtwo]
  rw [e1] at h1
  exact ⟨v', x, rfl, h1, ((Below.refl base W).alloc (by omega) _).trans h2⟩
theorem four2C (base g : Nat) (l : List UInt8) (v : Value) (a b : Nat) (a' b' : Int) (W : World) (hW : WrC W base g l v) (hl : l.length ≤ 2000000) (ha : a ≤ 4294967295) (hb : b ≤ 4294967295) (ea : a' = (a : Int)) (eb : b' = (b : Int)) {gA : Nat} (hgA : gA = W.heap.size) :
    Calls Try.prog 59 #[.pointer (some ⟨g, 0, none⟩), .slice (some ⟨gA, 0, none⟩) 2 2] (W.alloc (.cells #[.int .u32 a', .int .u32 b'] 23)) fun e w' => ∃ v' x, e = .returned x ∧ WrC w' base g (l ++ (be 4 a ++ be 4 b)) v' ∧ Below base W w' := by
  subst hgA ea eb
  have hB : Blk (W.alloc (.cells #[.int .u32 (a : Int), .int .u32 (b : Int)] 23)) W.heap.size 23 ([a, b].map fun n : Nat => Value.int .u32 (n : Int)) := Blk.new W _ _
  have hlt := hW.blk.lt
  have hbg := hW.hb
  refine (four_core base g l v [a, b] W.heap.size 2 _ (hW.alloc _) hl hB (by omega) hW.nes (by simp) (by simp; omega)).mono ?_
  rintro e w' ⟨v', x, rfl, h1, h2⟩
  have e1 : wfour [a, b] = be 4 a ++ be 4 b := by simp [wfour]
  rw [e1] at h1
  exact ⟨v', x, rfl, h1, ((Below.refl base W).alloc (by omega) _).trans h2⟩
end Go.Proofs.Ytbhdjalpkecbeaa
