/- Queues: their place in memory; the walks of New, Get, Len, Room. -/
import Derived.Test.YtkgkbmiacomhdaaComm
import Derived.Test.YtkgkbmiacomhdaaSumPure
import Derived.Conc.LoneSelectN
import Derived.Test.YtkgkbmiacomhdaaClone
import Derived.Test.YtkgkbmiacomhdaaGrow
import Derived.Test.YtkgkbmiacomhdaaEr
import Derived.Deep.QuietTactic
import Derived.BigQuiet
import Derived.Deep.CutBlock
import Derived.Deep.DeepCutAuto
namespace Go.Proofs.Ytkgkbmiacomhdaa
set_option linter.unusedVariables false
set_option linter.unusedSimpArgs false
open Go.RowKit Go.Conc

/-- A channel's block. -/
def Ch (w : World) (gc cap : Nat) (vs : List Value) : Prop := ∃ s r, w.heap[gc]? = some (.chan cap vs.toArray false s r false)
/-- A queue behind a pointer. -/
def Qc (w : World) (gq gc cap : Nat) (vs : List Value) : Prop := Blk w gq 67 [.chan (some gc)] ∧ Ch w gc cap vs
theorem Ch.lt {w : World} {gc cap : Nat} {vs : List Value} (h : Ch w gc cap vs) : gc < w.heap.size := by obtain ⟨_, _, h⟩ := h; exact (Array.getElem?_eq_some_iff.1 h).1
theorem Ch.kept {w w' : World} {gc cap : Nat} {vs : List Value} (h : Ch w gc cap vs) (hb : Below w.heap.size w w') : Ch w' gc cap vs := by
  have hl := h.lt
  obtain ⟨s, r, h⟩ := h
  exact ⟨s, r, (hb.block gc hl).trans h⟩
theorem Ch.grown {w w' : World} {gc cap : Nat} {vs : List Value} {row : Option Nat} (h : Ch w gc cap vs) (hb : w.grownBy w' row) (hg : some gc ≠ row) : Ch w' gc cap vs := by
  have hl := h.lt
  obtain ⟨s, r, h⟩ := h
  exact ⟨s, r, (hb.block gc hl hg).trans h⟩
theorem Qc.kept {w w' : World} {gq gc cap : Nat} {vs : List Value} (h : Qc w gq gc cap vs) (hb : Below w.heap.size w w') : Qc w' gq gc cap vs := ⟨h.1.kept hb, h.2.kept hb⟩
theorem Qc.ne {w : World} {gq gc cap : Nat} {vs : List Value} (h : Qc w gq gc cap vs) : gq ≠ gc := by
  obtain ⟨h1, s, r, h2⟩ := h
  intro e
  subst e
  unfold Blk at h1
  rw [h1] at h2
  cases h2
theorem ch_set {w : World} {gc cap s r : Nat} {vs : List Value} (h : gc < w.heap.size) : Ch (w.setChan gc cap vs.toArray false s r false) gc cap vs := ⟨s, r, heap_setChan w gc cap vs.toArray false s r false h⟩
theorem chan_other (w : World) (c c' cap : Nat) (buf : Array Value) (closed : Bool) (s r : Nat) (tm : Bool) (h : c ≠ c') : (w.setChan c cap buf closed s r tm).heap[c']? = w.heap[c']? := by
  simp [World.setChan, Array.getElem?_setIfInBounds_ne h]
theorem grown_chan (w : World) (gc cap : Nat) (buf : Array Value) (s r : Nat) : w.grownBy (w.setChan gc cap buf false s r false) (some gc) :=
  ⟨rfl, rfl, rfl, by simp [World.setChan], fun k hk hne => chan_other w gc k cap buf false s r false (fun e => hne (by rw [e]))⟩

theorem below_drewN {B : Nat} {w w' : World} (h : Below B w w') (n : Nat) : Below B w (w'.drewN n) := ⟨h.os, h.tape, h.output, h.size, h.block⟩
theorem info_row : (Try.prog.info? 42).map (fun i => (i.zero, i.size, i.bytes)) = some (some (.slice none 0 0), 1, 24) := by kernel_rfl
theorem mk_any (n : Nat) (w : World) (h : n ≤ 4096) : (Instr.makeChan 65 (.int .i64 (n : Int))).run Try.prog w = .ok (.chan (some w.heap.size)) (w.alloc (.chan n #[] false 0 0 false)) := by
  obtain ⟨i0, hi, hz0, hz1, hz2⟩ := info_parts info_row
  exact run_makeChan (P := Try.prog) (w := w) Try.underlying65 hi .i64 n (by omega) (by rw [hz2]; omega)
set_option maxHeartbeats 400000 in
theorem new_bad (n : Int) (w : World) (h : n < 0 ∨ 4096 < n) :
    Calls Try.prog 9 #[.int .i64 n] w fun e w' => e = .returned (.tuple #[.pointer none, er 4]) ∧ w' = w := by
  rcases h with h | h
  · go_enter Try.func9, Try.ntmps9
    go_wp2
    go_ret2
    exact ⟨rfl, rfl⟩
  · have h' : ¬ n < 0 := by omega
    go_enter Try.func9, Try.ntmps9
    go_wp2
    go_ret2
    exact ⟨rfl, rfl⟩
set_option maxHeartbeats 400000 in
theorem new_good (n : Nat) (w : World) (h : n ≤ 4096) :
    Calls Try.prog 9 #[.int .i64 (n : Int)] w fun e w' => e = .returned (.tuple #[.pointer (some ⟨w.heap.size + 1, 0, none⟩), .nilIface]) ∧ Qc w' (w.heap.size + 1) w.heap.size n [] ∧ Below w.heap.size w w' := by
  have hm := fun W => mk_any n W h
  go_enter Try.func9, Try.ntmps9
  go_wp2
  go_ret2
  refine ⟨rfl, ⟨?_, 0, 0, ?_⟩, ((Below.refl _ w).alloc (Nat.le_refl _) _).alloc (by simp) _⟩
  · exact blk_new (by simp)
  · rw [Below.heap_alloc _ _ _ (by simp)]
    exact heap_alloc_new w _
theorem new_i (n' : Int) (n : Nat) (w : World) (h : n ≤ 4096) (e : n' = (n : Int)) :
    Calls Try.prog 9 #[.int .i64 n'] w fun e w' => e = .returned (.tuple #[.pointer (some ⟨w.heap.size + 1, 0, none⟩), .nilIface]) ∧ Qc w' (w.heap.size + 1) w.heap.size n [] ∧ Below w.heap.size w w' := by
  subst e
  exact new_good n w h
set_option maxHeartbeats 400000 in
theorem len_any (gq gc cap : Nat) (vs : List Value) (w : World) (h : Qc w gq gc cap vs) :
    Calls Try.prog 22 #[.pointer (some ⟨gq, 0, none⟩)] w fun e w' => e = .returned (.int .i64 (vs.length : Int)) ∧ w' = w := by
  obtain ⟨hq, s, r, hc⟩ := h
  have c0 := hq.cell 0
  simp only [List.getElem?_cons_zero] at c0
  have hl := fun ty => run_len_chan (P := Try.prog) 65 ty Try.underlying65 hc
  simp only [List.size_toArray] at hl
  go_enter Try.func22, Try.ntmps22
  go_wp2
  go_ret
  exact ⟨rfl, rfl⟩
set_option maxHeartbeats 400000 in
theorem room_any (gq gc cap : Nat) (vs : List Value) (w : World) (h : Qc w gq gc cap vs) (h1 : vs.length ≤ cap) (h2 : cap ≤ 4096) :
    Calls Try.prog 23 #[.pointer (some ⟨gq, 0, none⟩)] w fun e w' => e = .returned (.int .i64 ((cap - vs.length : Nat) : Int)) ∧ ∃ k, w' = w.drewN k := by
  obtain ⟨hq, s, r, hc⟩ := h
  have c0 := hq.cell 0
  simp only [List.getElem?_cons_zero] at c0
  have hl := fun (k : Nat) ty => run_len_chan (P := Try.prog) (w := w.drewN k) 65 ty Try.underlying65 hc
  have hk := fun (k : Nat) ty => run_cap_chan (P := Try.prog) (w := w.drewN k) 65 ty Try.underlying65 hc
  simp only [List.size_toArray] at hl
  have e : IntKind.i64.wrap ((cap : Int) - (vs.length : Int)) = ((cap - vs.length : Nat) : Int) := by rw [IntWalk.i64_in _ (by omega)]; omega
  go_enter Try.func23, Try.ntmps23
  go_wp2_with fail
  go_quiet (fail)
  go_wp2
  go_ret
  exact ⟨rfl, _, rfl⟩
theorem len_i (gq gc cap : Nat) (vs : List Value) (n' : Int) (w : World) (h : Qc w gq gc cap vs) (e : (vs.length : Int) = n') :
    Calls Try.prog 22 #[.pointer (some ⟨gq, 0, none⟩)] w fun e w' => e = .returned (.int .i64 n') ∧ w' = w := by
  subst e
  exact len_any gq gc cap vs w h
theorem room_i (gq gc cap : Nat) (vs : List Value) (n' : Int) (w : World) (h : Qc w gq gc cap vs) (h1 : vs.length ≤ cap) (h2 : cap ≤ 4096) (e : ((cap - vs.length : Nat) : Int) = n') :
    Calls Try.prog 23 #[.pointer (some ⟨gq, 0, none⟩)] w fun e w' => e = .returned (.int .i64 n') ∧ ∃ k, w' = w.drewN k := by
  subst e
  exact room_any gq gc cap vs w h h1 h2
set_option maxHeartbeats 400000 in
theorem get_some (gq gc cap : Nat) (v : Value) (vs : List Value) (w : World) (h : Qc w gq gc cap (v :: vs)) :
    Calls Try.prog 16 #[.pointer (some ⟨gq, 0, none⟩)] w fun e w' => e = .returned (.tuple #[v, .bool true]) ∧ Qc w' gq gc cap vs ∧ w.grownBy w' (some gc) := by
  have hne := h.ne
  have hcl := h.2.lt
  obtain ⟨hq, s, r, hc⟩ := h
  have c0 := hq.cell 0
  simp only [List.getElem?_cons_zero] at c0
  go_enter Try.func16, Try.ntmps16
  go_upto_region 4 with (fail)
  refine wp_select_get (z := .slice none 0 0) rfl (by simp [go_sem, execOp, rcase, Act.eval]) hc ?_
  go_wp2_with fail
  go_ret2
  exact ⟨rfl, ⟨hq.grown (grown_chan w gc cap vs.toArray s (r + 1)) (by simp; exact hne), ch_set hcl⟩, grown_chan w gc cap vs.toArray s (r + 1)⟩
set_option maxHeartbeats 400000 in
theorem get_none (gq gc cap : Nat) (w : World) (h : Qc w gq gc cap []) :
    Calls Try.prog 16 #[.pointer (some ⟨gq, 0, none⟩)] w fun e w' => e = .returned (.tuple #[.slice none 0 0, .bool false]) ∧ w' = w := by
  obtain ⟨hq, s, r, hc⟩ := h
  have c0 := hq.cell 0
  simp only [List.getElem?_cons_zero] at c0
  go_enter Try.func16, Try.ntmps16
  go_upto_region 4 with (fail)
  refine wp_select_none (z := .slice none 0 0) rfl (by simp [go_sem, execOp, rcase, Act.eval]) hc ?_
  go_wp2_with fail
  go_ret2
  exact ⟨rfl, rfl⟩

/-- Rows of the call's own, each in a block of its own. -/
structure Own (w : World) (base : Nat) (vs : List Value) (xs : List (List UInt8)) : Prop where
  len : vs.length = xs.length
  own : ∀ (j : Nat) v x, vs[j]? = some v → xs[j]? = some x → w.ownsRow base 5 1 v x.length (x.map bv)
  dis : ∀ (i j : Nat) (u v : Value), i < j → vs[i]? = some u → vs[j]? = some v → ∀ b, u.ownBlock = some b → v.ownBlock ≠ some b
theorem Own.nil (w : World) (base : Nat) : Own w base [] [] := ⟨rfl, fun j v x h => by simp at h, fun i j u v _ h => by simp at h⟩
theorem Own.at_ {w : World} {base : Nat} {vs : List Value} {xs : List (List UInt8)} (h : Own w base vs xs) {j : Nat} {v : Value} (hv : vs[j]? = some v) : ∃ x, xs[j]? = some x ∧ w.ownsRow base 5 1 v x.length (x.map bv) := by
  have hj : j < xs.length := by rw [← h.len]; exact (List.getElem?_eq_some_iff.1 hv).1
  exact ⟨_, List.getElem?_eq_getElem hj, h.own j v _ hv (List.getElem?_eq_getElem hj)⟩
theorem Own.lt {w : World} {base : Nat} {vs : List Value} {xs : List (List UInt8)} (h : Own w base vs xs) {v : Value} (hv : v ∈ vs) {b : Nat} (hb : v.ownBlock = some b) : base ≤ b ∧ b < w.heap.size := by
  obtain ⟨j, hj⟩ := List.getElem?_of_mem hv
  obtain ⟨x, _, ho⟩ := h.at_ hj
  exact own_lt ho hb
theorem Own.grown {w w' : World} {base : Nat} {vs : List Value} {xs : List (List UInt8)} {row : Option Nat} (h : Own w base vs xs) (hg : w.grownBy w' row) (hne : ∀ v ∈ vs, ∀ b, v.ownBlock = some b → row ≠ some b) : Own w' base vs xs := by
  refine ⟨h.len, fun j v x hv hx => ?_, h.dis⟩
  refine (h.own j v x hv hx).kept hg ?_
  cases hb : v.ownBlock with
  | none => exact .inl rfl
  | some b => exact .inr (fun e => hne v (List.mem_of_getElem? hv) b hb e.symm)
theorem Own.below {w w' : World} {base : Nat} {vs : List Value} {xs : List (List UInt8)} (h : Own w base vs xs) (hb : Below w.heap.size w w') : Own w' base vs xs :=
  ⟨h.len, fun j v x hv hx => own_below (h.own j v x hv hx) hb, h.dis⟩
theorem Own.weaken {w : World} {base base' : Nat} {vs : List Value} {xs : List (List UInt8)} (h : Own w base vs xs) (hb : base' ≤ base) : Own w base' vs xs :=
  ⟨h.len, fun j v x hv hx => own_weaken (h.own j v x hv hx) hb, h.dis⟩
theorem Own.append {w : World} {base : Nat} {vs us : List Value} {xs ys : List (List UInt8)} (h : Own w base vs xs) (h2 : Own w base us ys) (hd : ∀ u ∈ vs, ∀ v ∈ us, ∀ b, u.ownBlock = some b → v.ownBlock ≠ some b) : Own w base (vs ++ us) (xs ++ ys) := by
  have hl := h.len
  refine ⟨by rw [List.length_append, List.length_append, h.len, h2.len], fun j v x hv hx => ?_, fun i j u v hij hu hv => ?_⟩
  · by_cases hj : j < vs.length
    · rw [List.getElem?_append_left hj] at hv
      rw [List.getElem?_append_left (by omega)] at hx
      exact h.own j v x hv hx
    · rw [List.getElem?_append_right (by omega)] at hv
      rw [List.getElem?_append_right (by omega), ← hl] at hx
      exact h2.own _ v x hv hx
  · by_cases hj : j < vs.length
    · rw [List.getElem?_append_left hj] at hv
      rw [List.getElem?_append_left (by omega)] at hu
      exact h.dis i j u v hij hu hv
    · rw [List.getElem?_append_right (by omega)] at hv
      by_cases hi : i < vs.length
      · rw [List.getElem?_append_left hi] at hu
        exact hd u (List.mem_of_getElem? hu) v (List.mem_of_getElem? hv)
      · rw [List.getElem?_append_right (by omega)] at hu
        exact h2.dis _ _ u v (by omega) hu hv
theorem Own.one {w : World} {base : Nat} {v : Value} {x : List UInt8} (h : w.ownsRow base 5 1 v x.length (x.map bv)) : Own w base [v] [x] := by
  refine ⟨rfl, fun j u y hu hy => ?_, fun i j u v hij hu hv => ?_⟩
  · match j, hu, hy with
    | 0, hu, hy => simp at hu hy; subst hu hy; exact h
  · match j, hij, hv with
    | j + 1, _, hv => simp at hv
/-- A new row behind the others. -/
theorem Own.snoc {w : World} {base nb : Nat} {vs : List Value} {xs : List (List UInt8)} {v : Value} {x : List UInt8} (h : Own w base vs xs) (hv : w.ownsRow nb 5 1 v x.length (x.map bv)) (hb : base ≤ nb) (hlt : ∀ u ∈ vs, ∀ b, u.ownBlock = some b → b < nb) :
    Own w base (vs ++ [v]) (xs ++ [x]) :=
  h.append (Own.one (own_weaken hv hb)) (fun u hu y hy b hub hyb => by
    simp only [List.mem_singleton] at hy
    subst hy
    have h1 := (own_lt hv hyb).1
    have h2 := hlt u hu b hub
    omega)
theorem own_not_chan {w : World} {base gc cap : Nat} {v : Value} {e : TypeId} {n : Nat} {xs vs : List Value} (h : w.ownsRow base e 1 v n xs) (hc : Ch w gc cap vs) : ∀ b, v.ownBlock = some b → some gc ≠ some b := by
  intro b hb he
  injection he with he
  subst he
  obtain ⟨s, r, hc⟩ := hc
  rcases h.2 with ⟨rfl, _⟩ | ⟨g, cap', cur, rfl, _, hg, _⟩
  · cases hb
  · simp only [Value.ownBlock, Option.some.injEq] at hb
    subst hb
    rw [hg] at hc
    cases hc
theorem Own.chan {w w' : World} {base gc cap : Nat} {vs us : List Value} {xs : List (List UInt8)} (h : Own w base vs xs) (hc : Ch w gc cap us) (hg : w.grownBy w' (some gc)) : Own w' base vs xs :=
  h.grown hg fun v hv b hb => by
    obtain ⟨j, hj⟩ := List.getElem?_of_mem hv
    obtain ⟨x, _, ho⟩ := h.at_ hj
    exact own_not_chan ho hc b hb
theorem cell_not_chan {w : World} {gc cap : Nat} {vs : List Value} {p : Addr} {u : Value} (h : w.cell? p = some u) (hc : Ch w gc cap vs) : p.block ≠ gc := by
  rintro rfl
  obtain ⟨s, r, hc⟩ := hc
  simp [World.cell?, hc] at h
theorem RC.chan {w w' : World} {gc cap : Nat} {vs : List Value} {A : Option Addr} {cs : List Value} (h : RC w A cs) (hc : Ch w gc cap vs) (hg : w.grownBy w' (some gc)) : RC w' A cs := fun j u hu => by
  obtain ⟨ad, e, hcell⟩ := h j u hu
  have hne := cell_not_chan hcell hc
  refine ⟨ad, e, ?_⟩
  rw [hg.cell_far (ad.add j) (World.block_lt_of_cell? w _ hcell) (by simp; exact hne)]
  exact hcell
theorem RP.chan {w w' : World} {gc cap : Nat} {vs : List Value} {A : Option Addr} {ps : List (List UInt8)} (h : RP w A ps) (hc : Ch w gc cap vs) (hg : w.grownBy w' (some gc)) : RP w' A ps := by
  obtain ⟨cs, h1, hr, hp⟩ := h
  refine ⟨cs, h1, hr.chan hc hg, fun j hj => ?_⟩
  obtain ⟨B, c, h1, h2, h3⟩ := hp j hj
  exact ⟨B, c, h1, h2, RC.chan h3 hc hg⟩
theorem grown_of_below {w w' : World} {row : Option Nat} (h : Below w.heap.size w w') : w.grownBy w' row := ⟨h.os, h.tape, h.output, h.size, fun k hk _ => h.block k hk⟩

def PutR (w : World) (gq gc cap : Nat) (vs : List Value) (ps : List (List UInt8)) (n : Value) (wx : World) : Prop :=
  ∃ news : List Value, n = .int .i64 (news.length : Int) ∧ news.length = min ps.length (cap - vs.length) ∧ Qc wx gq gc cap (vs ++ news) ∧ Own wx w.heap.size news (ps.take news.length) ∧ w.grownBy wx (some gc)
theorem put_step {w wr w1 : World} {gq gc cap k s r : Nat} {vs news : List Value} {ps : List (List UInt8)} {A : Option Addr} {v : Value} {x : List UInt8} (HQ : Qc w1 gq gc cap (vs ++ news)) (HO : Own w1 w.heap.size news (ps.take k)) (hnl : news.length = k)
    (hG : w.grownBy wr (some gc)) (hR : RP wr A ps) (hb1 : Below wr.heap.size wr w1) (hv : w1.ownsRow wr.heap.size 5 1 v x.length (x.map bv)) (HOr : Own wr w.heap.size news (ps.take k)) (ht : ps.take (k + 1) = ps.take k ++ [x]) :
    Qc (w1.setChan gc cap ((vs ++ news) ++ [v]).toArray false s r false) gq gc cap (vs ++ (news ++ [v])) ∧ Own (w1.setChan gc cap ((vs ++ news) ++ [v]).toArray false s r false) w.heap.size (news ++ [v]) (ps.take (k + 1)) ∧
      w.grownBy (w1.setChan gc cap ((vs ++ news) ++ [v]).toArray false s r false) (some gc) ∧ RP (w1.setChan gc cap ((vs ++ news) ++ [v]).toArray false s r false) A ps := by
  have hg2 := grown_chan w1 gc cap ((vs ++ news) ++ [v]).toArray s r
  have hcl := HQ.2.lt
  refine ⟨⟨HQ.1.grown hg2 (by simp; exact HQ.ne), ?_⟩, ?_, hG.trans ((grown_of_below hb1).trans hg2), (hR.below hb1).chan HQ.2 hg2⟩
  · rw [← List.append_assoc]
    exact ch_set hcl
  · rw [ht]
    exact (HO.snoc hv hG.size (fun u hu b hb => (HOr.lt hu hb).2)).chan HQ.2 hg2
set_option maxHeartbeats 800000 in
theorem put_any (gq gc cap : Nat) (vs : List Value) (ps : List (List UInt8)) (A : Option Addr) (c : Nat) (w : World) (h : Qc w gq gc cap vs) (hv : vs.length ≤ cap) (hcap : cap ≤ 4096) (hA : RP w A ps) (hl : ps.length ≤ 4000000) (hls : ∀ x ∈ ps, x.length ≤ 4000000) :
    Calls Try.prog 13 #[.pointer (some ⟨gq, 0, none⟩), .slice A ps.length c] w fun e w' => ∃ n, e = .returned n ∧ PutR w gq gc cap vs ps n w' := by
  have HLS := Lib.hid hls
  clear hls
  have hq0 := h
  go_enter Try.func13, Try.ntmps13
  go_wp2_with fail
  go_step3
  go_wp2_with fail
  go_step3
  go_upto_block 0 with fail
  go_cut [5] (fun n wx => PutR w gq gc cap vs ps n wx)
  case first =>
    go_wp2_with fail
    go_loopw [5, 12] (fun n i wr => ∃ (k : Nat) (news : List Value), k ≤ ps.length ∧ vs.length + k ≤ cap ∧ i = .int .i64 (k : Int) ∧ n = .int .i64 (k : Int) ∧ news.length = k ∧ Hid (Qc wr gq gc cap (vs ++ news)) ∧ Hid (Own wr w.heap.size news (ps.take k)) ∧ Hid (w.grownBy wr (some gc)) ∧ Hid (RP wr A ps)) (fun _ i _ => ps.length - (intOf i).toNat)
    case atStart => exact ⟨0, [], Nat.zero_le _, by omega, rfl, rfl, rfl, by rw [List.append_nil]; exact hq0, Own.nil _ _, World.grownBy.refl w _, hA⟩
    case round =>
      obtain ⟨k, news, hk, hkc, rfl, rfl, hnl, HQ, HO, HG, HR⟩ := hrel
      have HNL := Lib.hid hnl
      clear hnl
      by_cases hlt : k < ps.length
      · obtain ⟨ad, B, cb, rfl, hcell, hcb, hB⟩ := HR.out.at_ k hlt
        have hxl := HLS.out ps[k] (List.getElem_mem hlt)
        have HT := Lib.hid (take_snoc ps k hlt)
        have hqc := HQ.out.1.cell 0
        simp only [List.getElem?_cons_zero] at hqc
        generalize ps[k] = x at *
        go_wp2_with fail
        (with_reducible refine (clone_any x B cb wr hB hcb hxl).mono ?_)
        rintro e w1 ⟨v, rfl, hown, hb1⟩
        have HQ1 := HQ.out.kept hb1
        have HO1 := HO.out.below hb1
        have HOW := Lib.hid hown
        clear hown hcell hqc
        obtain ⟨s, r, hc⟩ := HQ1.2
        have hgcl := HQ1.2.lt
        go_upto_region 9 with (fail)
        by_cases hroom : vs.length + k < cap
        · refine wp_select_put (x := v) (z := .slice none 0 0) (vs := vs ++ news) rfl (by simp [go_sem, execOp, scase, Act.eval]) hc (by rw [List.length_append, HNL.out]; exact hroom) ?_
          obtain ⟨q1, q2, q3, q4⟩ := put_step (s := s + 1) (r := r) HQ1 HO1 HNL.out HG.out HR.out hb1 HOW.out HO.out HT.out
          have G1 := Lib.hid q1
          have G2 := Lib.hid q2
          have G3 := Lib.hid q3
          have G4 := Lib.hid q4
          have HNL2 : Hid ((news ++ [v]).length = k + 1) := by show _ = _; rw [List.length_append, HNL.out]; rfl
          clear q1 q2 q3 q4 hc HOW hb1
          generalize w1.setChan gc cap ((vs ++ news) ++ [v]).toArray false (s + 1) r false = w2 at *
          go_wp2_with fail
          go_roundw
          case rel => exact ⟨k + 1, news ++ [v], by omega, by omega, by go_num, by go_num, HNL2.out, G1, G2, G3, G4⟩
          case measure => simp [intOf]; omega
        · refine wp_select_full (x := v) (z := .slice none 0 0) (vs := vs ++ news) rfl (by simp [go_sem, execOp, scase, Act.eval]) hc (by rw [List.length_append, HNL.out]; omega) ?_
          go_wp2_with fail
          go_meet
          case rel => exact ⟨news, by rw [HNL.out], by rw [HNL.out]; omega, HQ1, by rw [HNL.out]; exact HO1, HG.out.trans (grown_of_below hb1)⟩
      · obtain rfl : k = ps.length := by omega
        go_wp2_with fail
        go_meet
        case rel => exact ⟨news, by rw [HNL.out], by rw [HNL.out]; omega, HQ.out, by rw [HNL.out]; exact HO.out, HG.out⟩
  case rest =>
    have HC := Lib.hid hcut
    clear hcut
    go_wp2_with fail
    rw [Exit.noGoto_ret]
    go_ret
    exact ⟨_, rfl, HC.out⟩
theorem put_n (gq gc cap m : Nat) (vs : List Value) (ps : List (List UInt8)) (A : Option Addr) (c : Nat) (w : World) (h : Qc w gq gc cap vs) (hv : vs.length ≤ cap) (hcap : cap ≤ 4096) (hA : RP w A ps) (hm : ps.length = m) (hl : m ≤ 4000000) (hls : ∀ x ∈ ps, x.length ≤ 4000000) :
    Calls Try.prog 13 #[.pointer (some ⟨gq, 0, none⟩), .slice A m c] w fun e w' => ∃ n, e = .returned n ∧ PutR w gq gc cap vs ps n w' := by
  subst hm
  exact put_any gq gc cap vs ps A c w h hv hcap hA hl hls
theorem grown_fresh {w wr w2 : World} {row row2 : Option Nat} (h : w.grownBy wr row) (h2 : wr.grownBy w2 row2) (hr : ∀ b, row2 = some b → w.heap.size ≤ b) : w.grownBy w2 row :=
  ⟨h2.os.trans h.os, h2.tape.trans h.tape, h2.output.trans h.output, Nat.le_trans h.size h2.size, fun k hk hne => by
    have hk2 : k < wr.heap.size := Nat.lt_of_lt_of_le hk h.size
    rw [h2.block k hk2 (fun e => by have := hr k e.symm; omega)]
    exact h.block k hk hne⟩
theorem Qc.fresh {w wr : World} {gq gc cap : Nat} {vs : List Value} {row : Option Nat} {B : Nat} (h : Qc w gq gc cap vs) (hg : w.grownBy wr row) (hq : gq < B) (hc : gc < B) (hr : ∀ b, row = some b → B ≤ b) : Qc wr gq gc cap vs := by
  refine ⟨h.1.grown hg (fun e => ?_), h.2.grown hg (fun e => ?_)⟩
  · have := hr gq e.symm; omega
  · have := hr gc e.symm; omega
theorem Qc.alloc {w : World} {gq gc cap : Nat} {vs : List Value} (h : Qc w gq gc cap vs) (o : Obj) : Qc (w.alloc o) gq gc cap vs := h.kept ((Below.refl _ w).alloc (Nat.le_refl _) o)

def IsSl (v : Value) : Prop := ∃ A n c, v = .slice A n c
theorem Own.sl {w : World} {base : Nat} {vs : List Value} {xs : List (List UInt8)} (h : Own w base vs xs) : ∀ v ∈ vs, IsSl v := fun v hv => by
  obtain ⟨j, hj⟩ := List.getElem?_of_mem hv
  obtain ⟨x, _, ho⟩ := h.at_ hj
  obtain ⟨A, c, e, _⟩ := own_form ho
  exact ⟨A, _, c, e⟩
set_option maxHeartbeats 800000 in
theorem drain_any (gq gc cap : Nat) (vs : List Value) (w : World) (h : Qc w gq gc cap vs) (h1 : ∀ v ∈ vs, IsSl v) (hl : vs.length ≤ 4000000) :
    Calls Try.prog 20 #[.pointer (some ⟨gq, 0, none⟩)] w fun e w' => ∃ v, e = .returned v ∧ w'.ownsRow w.heap.size 42 1 v vs.length vs ∧ Qc w' gq gc cap [] ∧ w.grownBy w' (some gc) := by
  obtain ⟨i0, hi, hz0, hz1, hz2⟩ := info_parts info_row
  have hgq := h.1.lt
  have hgc := h.2.lt
  have H1 := Lib.hid h1
  have hq0 := Lib.hid h
  clear h1 h
  go_enter Try.func20, Try.ntmps20
  go_wp2_with fail
  go_loopg [3] vs.length (fun k out wr => ∃ done left : List Value, left.length = k ∧ done.length + k = vs.length ∧ Hid (vs = done ++ left) ∧ Hid (wr.ownsRow w.heap.size 42 1 out done.length done) ∧ Hid (Qc wr gq gc cap left) ∧ Hid (w.grownBy wr (some gc)))
  case atStart => exact ⟨[], vs, rfl, by simp, rfl, World.ownsRow_nil _ _ _ _, hq0.out, World.grownBy.refl w _⟩
  case round =>
    obtain ⟨done, left, hk, hdl, HE, HO, HQ, HG⟩ := hrel
    have HK := Lib.hid hk
    clear hk
    cases left with
    | nil =>
      have hk0 : gk = 0 := by have := HK.out; simp at this; omega
      go_wp2_with fail
      (with_reducible refine (get_none gq gc cap wr HQ.out).mono ?_)
      rintro e w1 ⟨rfl, rfl⟩
      have HD : Hid (vs = done) := by show vs = done; rw [HE.out, List.append_nil]
      go_wp2_with fail
      go_ret
      refine ⟨_, rfl, ?_, HQ.out, HG.out⟩
      have h := HO.out
      rw [← HD.out] at h
      exact h
    | cons x left =>
      obtain ⟨k, hk⟩ : ∃ k, gk = k + 1 := ⟨left.length, by have := HK.out; simp at this; omega⟩
      subst hk
      obtain ⟨xA, xn, xc, rfl⟩ := H1.out x (by rw [HE.out]; simp)
      go_wp2_with fail
      (with_reducible refine (get_some gq gc cap (.slice xA xn xc) left wr HQ.out).mono ?_)
      rintro e w1 ⟨rfl, hq1, hg1⟩
      have hown1 := (HO.out.kept hg1 (by
        cases hb : u3.ownBlock with
        | none => exact .inl rfl
        | some b => exact .inr (by have := (own_lt HO.out hb).1; simp; omega))).alloc (.cells #[Value.slice xA xn xc] 42)
      have hone : ∀ u ∈ [Value.slice xA xn xc], u.oneCell' = true := fun u hu => by simp only [List.mem_singleton] at hu; rw [hu]; rfl
      have hbs : w.heap.size ≤ (w1.alloc (.cells #[Value.slice xA xn xc] 42)).heap.size := by have := HG.out.size; have := hg1.size; simp; omega
      have HOL : Hid (∀ b, u3.ownBlock = some b → w.heap.size ≤ b) := fun b hb => (own_lt HO.out hb).1
      go_wp2_with (at_builtin; refine wl_app _ rfl (.tmp 14) (.tmp 16) 33 rfl w.heap.size 42 i0 (.slice none 0 0) 1 24 Try.underlying33 hi hz0 hz1 hz2 rfl (by omega) _ _ _ rfl hown1 (some ⟨w1.heap.size, 0, none⟩) 1 1 [Value.slice xA xn xc] rfl rfl (rc_new w1 [Value.slice xA xn xc] 42) hone (by unfold maxLen; omega) (by omega) hbs ?_)
      intro v2 w2 hown2 hg2 hat2
      have G1 : Hid (w2.ownsRow w.heap.size 42 1 v2 (done ++ [Value.slice xA xn xc]).length (done ++ [Value.slice xA xn xc])) := by show World.ownsRow _ _ _ _ _ _ _; rw [List.length_append]; exact hown2
      have G2 : Hid (Qc w2 gq gc cap left) := (hq1.alloc _).fresh hg2 hgq hgc HOL.out
      have G3 : Hid (w.grownBy w2 (some gc)) := grown_fresh (HG.out.trans (hg1.trans (grown_of_below ((Below.refl _ w1).alloc (Nat.le_refl _) _)))) hg2 HOL.out
      have G4 : Hid (vs = (done ++ [Value.slice xA xn xc]) ++ left) := by show vs = _; rw [HE.out]; simp
      clear hown2 hg2 hat2 hown1 hone hbs hq1 hg1
      go_wp2_with fail
      go_roundg k
      case measure => omega
      exact ⟨done ++ [Value.slice xA xn xc], left, by have := HK.out; simpa using this, by rw [List.length_append]; simp; omega, G4, G1, G2, G3⟩
end Go.Proofs.Ytkgkbmiacomhdaa
