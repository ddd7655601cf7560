/- Words for memory, used by all walks of this seat: cells that read as a list, bytes, parts. -/
import Derived.WalkKit
import Derived.Deep.AppendLies
import Derived.Deep.Draws
import Derived.Deep.QuietTactic
import Derived.BigQuiet
import Derived.Deep.LoopGhost
import Derived.Deep.DeepCutAuto
import Derived.Maps.AppendAt
import Derived.Lib.Hide
import Derived.Lib.SlBytesConst
import Derived.Laws.BytesArg
import Derived.Laws.CopyOwn
import Derived.Deep.RegionLaw
namespace Go.Proofs.Ytkgkbmiacomhdaa
set_option linter.unusedVariables false
set_option linter.unusedSimpArgs false
open Go.RowKit

theorem add_add' (a : Addr) (i j : Nat) : (a.add i).add j = a.add (i + j) := by
  unfold Addr.add
  by_cases hi : i = 0 <;> by_cases hj : j = 0 <;> simp [hi, hj, Nat.add_assoc]
theorem add_block (a : Addr) (n : Nat) : (a.add n).block = a.block := by unfold Addr.add; split <;> rfl
theorem add_pos' (a : Addr) (n : Nat) (h : 0 < n) : a.add n = ⟨a.block, a.off + n, none⟩ := by unfold Addr.add; rw [if_neg (by omega)]
theorem add_lit0 (g j : Nat) : (⟨g, 0, none⟩ : Addr).add j = ⟨g, j, none⟩ := by unfold Addr.add; split <;> simp_all

/-- The cells cs lie at A. -/
def RC (w : World) (A : Option Addr) (cs : List Value) : Prop := ∀ j u, cs[j]? = some u → ∃ ad, A = some ad ∧ w.cell? (ad.add j) = some u

theorem cell_keep {w w' : World} (h : Below w.heap.size w w') {a : Addr} {v : Value} (hc : w.cell? a = some v) : w'.cell? a = some v := (h.cell (World.block_lt_of_cell? w a hc)).trans hc
theorem RC.nil (w : World) (A : Option Addr) : RC w A [] := fun j u h => by simp at h
theorem RC.keep {w w' : World} {A : Option Addr} {cs : List Value} (h : RC w A cs) (hk : ∀ p : Addr, w.cell? p ≠ none → w'.cell? p = w.cell? p) : RC w' A cs := fun j u hu => by
  obtain ⟨ad, e, hc⟩ := h j u hu
  exact ⟨ad, e, by rw [hk _ (by rw [hc]; simp)]; exact hc⟩
theorem RC.below {w w' : World} {A : Option Addr} {cs : List Value} (h : RC w A cs) (hb : Below w.heap.size w w') : RC w' A cs :=
  h.keep fun p hp => by
    cases hc : w.cell? p with
    | none => exact absurd hc hp
    | some v => rw [← hc]; exact hb.cell (World.block_lt_of_cell? w p hc)
theorem RC.drop_ {w : World} {A : Option Addr} {cs : List Value} {n c : Nat} (h : RC w A cs) (hn : cs.length = n) (i : Nat) (hi : i ≤ n) (hc : n ≤ c) :
    RC w (if c = i then A else A.map (·.add i)) (cs.drop i) := fun j u hu => by
  rw [List.getElem?_drop] at hu
  have hlt : i + j < cs.length := (List.getElem?_eq_some_iff.1 hu).1
  rw [if_neg (by omega)]
  obtain ⟨ad, rfl, hcell⟩ := h _ u hu
  exact ⟨ad.add i, rfl, by rw [add_add']; exact hcell⟩
theorem RC.take_ {w : World} {A : Option Addr} {cs : List Value} (h : RC w A cs) (i : Nat) : RC w A (cs.take i) := fun j u hu => by
  rw [List.getElem?_take] at hu
  split at hu
  · exact h j u hu
  · cases hu
theorem RC.of_own {w : World} {base : Nat} {e : TypeId} {A : Option Addr} {n c k : Nat} {xs : List Value} (h : w.ownsRow base e 1 (.slice A n c) k xs) : RC w A xs := fun j u hu => by
  rcases h.2 with ⟨hv, h0⟩ | ⟨g, cap, cur, hv, _⟩
  · have : xs = [] := List.eq_nil_of_length_eq_zero (by rw [h.1, h0, Nat.zero_mul])
    subst this; simp at hu
  · injection hv with hA
    subst hA
    exact ⟨_, rfl, h.cells (g := g) rfl j u hu⟩
theorem RC.block {w : World} {g : Nat} {cs : Array Value} {t : TypeId} {fr : Nat × Nat} (hb : w.heap[g]? = some (.cells cs t fr)) : RC w (some ⟨g, 0, none⟩) cs.toList := fun j u hu =>
  ⟨_, rfl, World.news_of_block hb j u hu⟩

/-- A byte as a cell. -/
abbrev bv (x : UInt8) : Value := .int .u8 (x.toNat : Int)
/-- Bytes at A. -/
def RB (w : World) (A : Option Addr) (xs : List UInt8) : Prop := RC w A (xs.map bv)
theorem RB.at_ {w : World} {A : Option Addr} {xs : List UInt8} (h : RB w A xs) (k : Nat) (hk : k < xs.length) : ∃ ad, A = some ad ∧ w.cell? (ad.add k) = some (.int .u8 ((xs[k].toNat : Nat) : Int)) :=
  h k _ (by simp [hk])
theorem RB.below {w w' : World} {A : Option Addr} {xs : List UInt8} (h : RB w A xs) (hb : Below w.heap.size w w') : RB w' A xs := RC.below h hb
theorem RB.drop_ {w : World} {A : Option Addr} {xs : List UInt8} {n c : Nat} (h : RB w A xs) (hn : xs.length = n) (i : Nat) (hi : i ≤ n) (hc : n ≤ c) :
    RB w (if c = i then A else A.map (·.add i)) (xs.drop i) := by
  unfold RB
  rw [List.map_drop]
  exact RC.drop_ h (by simpa using hn) i hi hc
theorem RB.take_ {w : World} {A : Option Addr} {xs : List UInt8} (h : RB w A xs) (i : Nat) : RB w A (xs.take i) := by
  unfold RB
  rw [List.map_take]
  exact RC.take_ h i
theorem RB.drewN {w : World} {A : Option Addr} {xs : List UInt8} (h : RB w A xs) (n : Nat) : RB (w.drewN n) A xs := h

/-- Parts at A: slices of bytes. -/
def RP (w : World) (A : Option Addr) (ps : List (List UInt8)) : Prop := ∃ cs : List Value, cs.length = ps.length ∧ RC w A cs ∧
  ∀ j (h : j < ps.length), ∃ B c, cs[j]? = some (.slice B ps[j].length c) ∧ ps[j].length ≤ c ∧ RB w B ps[j]
theorem RP.at_ {w : World} {A : Option Addr} {ps : List (List UInt8)} (h : RP w A ps) (k : Nat) (hk : k < ps.length) :
    ∃ ad B c, A = some ad ∧ w.cell? (ad.add k) = some (.slice B ps[k].length c) ∧ ps[k].length ≤ c ∧ RB w B ps[k] := by
  obtain ⟨cs, _, hc, hp⟩ := h
  obtain ⟨B, c, h1, h2, h3⟩ := hp k hk
  obtain ⟨ad, e, h4⟩ := hc k _ h1
  exact ⟨ad, B, c, e, h4, h2, h3⟩
theorem RP.below {w w' : World} {A : Option Addr} {ps : List (List UInt8)} (h : RP w A ps) (hb : Below w.heap.size w w') : RP w' A ps := by
  obtain ⟨cs, h1, hc, hp⟩ := h
  refine ⟨cs, h1, hc.below hb, fun j hj => ?_⟩
  obtain ⟨B, c, h1, h2, h3⟩ := hp j hj
  exact ⟨B, c, h1, h2, h3.below hb⟩
theorem RP.nil (w : World) (A : Option Addr) : RP w A [] := ⟨[], rfl, RC.nil w A, fun j h => by simp at h⟩

/-- Pairs of words at A: two cells each. -/
def RQ (w : World) (A : Option Addr) (ps : List (Nat × Nat)) : Prop := ∀ j (h : j < ps.length), ps[j].1 ≤ 65535 ∧ ps[j].2 ≤ 65535 ∧ ∃ ad, A = some ad ∧ w.cell? (ad.add (j * 2)) = some (.int .u16 (ps[j].1 : Int)) ∧ w.cell? (ad.add (j * 2 + 1)) = some (.int .u16 (ps[j].2 : Int))
def qcells (ps : List (Nat × Nat)) : List Value := ps.flatMap fun p => [.int .u16 (p.1 : Int), .int .u16 (p.2 : Int)]
theorem qcells_length (ps : List (Nat × Nat)) : (qcells ps).length = ps.length * 2 := by
  induction ps with
  | nil => rfl
  | cons p r ih => simp only [qcells, List.flatMap_cons, List.length_append, List.length_cons] at ih ⊢; simp only [List.length_nil]; omega
theorem qcells_at (ps : List (Nat × Nat)) : ∀ j (h : j < ps.length), (qcells ps)[j * 2]? = some (.int .u16 (ps[j].1 : Int)) ∧ (qcells ps)[j * 2 + 1]? = some (.int .u16 (ps[j].2 : Int)) := by
  induction ps with
  | nil => intro j h; simp at h
  | cons p r ih =>
    intro j h
    cases j with
    | zero => exact ⟨rfl, rfl⟩
    | succ j =>
      have e : qcells (p :: r) = .int .u16 (p.1 : Int) :: .int .u16 (p.2 : Int) :: qcells r := rfl
      rw [e, show (j + 1) * 2 = j * 2 + 1 + 1 from by omega]
      exact ih j (by simpa using h)
theorem RQ.mk {w : World} {A : Option Addr} {ps : List (Nat × Nat)} (hb : ∀ p ∈ ps, p.1 ≤ 65535 ∧ p.2 ≤ 65535) (h : RC w A (qcells ps)) : RQ w A ps := fun j hj => by
  obtain ⟨h1, h2⟩ := qcells_at ps j hj
  obtain ⟨ad, e, c1⟩ := h _ _ h1
  obtain ⟨ad', e', c2⟩ := h _ _ h2
  rw [e] at e'; injection e' with e'; subst e'
  exact ⟨(hb _ (List.getElem_mem hj)).1, (hb _ (List.getElem_mem hj)).2, ad, e, c1, c2⟩
theorem RQ.below {w w' : World} {A : Option Addr} {ps : List (Nat × Nat)} (h : RQ w A ps) (hb : Below w.heap.size w w') : RQ w' A ps := fun j hj => by
  obtain ⟨h1, h2, ad, e, h3, h4⟩ := h j hj
  exact ⟨h1, h2, ad, e, (hb.cell (World.block_lt_of_cell? w _ h3)).trans h3, (hb.cell (World.block_lt_of_cell? w _ h4)).trans h4⟩

/-- Bytes as a string. -/
def bs (xs : List UInt8) : ByteArray := ⟨xs.toArray⟩
theorem bs_inj {xs ys : List UInt8} (h : bs xs = bs ys) : xs = ys := by
  unfold bs at h
  injection h with h
  simpa using congrArg Array.toList h
theorem bs_toList (xs : List UInt8) : (bs xs).toList = xs := by rw [ByteArray.toList_eq]; simp [bs]
theorem beq_bs (xs ys : List UInt8) : ((bs xs).toList == (bs ys).toList) = decide (xs = ys) := by rw [bs_toList, bs_toList]; by_cases h : xs = ys <;> simp [h]
theorem bs_size (xs : List UInt8) : (bs xs).size = xs.length := by simp [bs, ByteArray.size]
theorem bs_push (xs : List UInt8) : ∀ s : ByteArray, (xs.map fun x => ((x.toNat : Nat) : Int)).foldl (fun r n => r.push (UInt8.ofNat n.toNat)) s = ⟨s.data ++ xs.toArray⟩ := by
  induction xs with
  | nil => intro s; simp
  | cons x r ih => intro s; simp only [List.map_cons, List.foldl_cons]; rw [ih]; simp [ByteArray.push]
section
variable {P : Program} (w : World)
theorem run_str (src dst e : TypeId) (hs : P.underlying src = some (.slice e)) (he : P.underlying e = some (.int .u8)) (hd : P.underlying dst = some .string)
    (A : Option Addr) (n c : Nat) (xs : List UInt8) (h : RB w A xs) (hn : xs.length = n) : (convert src dst (.slice A n c)).run P w = .ok (.string (bs xs)) w := by
  subst hn
  cases A with
  | none =>
    cases xs with
    | nil => rw [run_convert_bytes_nil w src e hs he _ _ dst hd]; rfl
    | cons x r => obtain ⟨_, h1, _⟩ := h 0 _ rfl; cases h1
  | some ad =>
    rw [run_convert_bytes_string w src dst e _ _ c hs he hd]
    have hl : (loadCells ad xs.length).run P w = .ok ((xs.map fun x => ((x.toNat : Nat) : Int)).map (Value.int .u8)).toArray w := by
      have h2 := run_loadCells_list (P := P) w ad (xs.map bv) (fun j v hj => by
        obtain ⟨ad', e1, h3⟩ := h j v hj
        injection e1 with e1
        subst e1
        exact h3)
      simpa [Function.comp_def] using h2
    rw [run_bytesToString w ad _ c _ hl, bs_push]
    simp [bs, ByteArray.empty, ByteArray.emptyWithCapacity]
    rfl
end

/-- A block that is known whole. -/
def Blk (w : World) (g : Nat) (t : TypeId) (cs : List Value) : Prop := w.heap[g]? = some (.cells cs.toArray t (0, 0))
section
variable {w w' : World} {g : Nat} {t : TypeId} {cs : List Value}
theorem Blk.lt (h : Blk w g t cs) : g < w.heap.size := (Array.getElem?_eq_some_iff.1 h).1
theorem Blk.rc (h : Blk w g t cs) : RC w (some ⟨g, 0, none⟩) cs := by have := RC.block h; simpa using this
theorem Blk.cell (h : Blk w g t cs) (i : Nat) : w.cell? ⟨g, i, none⟩ = cs[i]? := by rw [cell_of_row w g i _ t (0, 0) h]; simp
theorem Blk.frozen (h : Blk w g t cs) (i : Nat) : w.frozen? ⟨g, i, none⟩ = false := by
  unfold Blk at h
  simp [World.frozen?, h]
theorem Blk.new (w : World) (t : TypeId) (cs : List Value) : Blk (w.alloc (.cells cs.toArray t)) w.heap.size t cs := heap_alloc_new w _
theorem Blk.below {B : Nat} (h : Blk w g t cs) (hb : Below B w w') (hg : g < B) : Blk w' g t cs := (hb.block g hg).trans h
theorem Blk.kept (h : Blk w g t cs) (hb : Below w.heap.size w w') : Blk w' g t cs := (hb.block g h.lt).trans h
theorem Blk.grown {row : Option Nat} (h : Blk w g t cs) (hb : w.grownBy w' row) (hg : some g ≠ row) : Blk w' g t cs := (hb.block g h.lt hg).trans h
theorem Blk.alloc (h : Blk w g t cs) (o : Obj) : Blk (w.alloc o) g t cs := (Below.heap_alloc w o g h.lt).trans h
theorem Blk.drewN (h : Blk w g t cs) (n : Nat) : Blk (w.drewN n) g t cs := h
theorem Blk.far (h : Blk w g t cs) {p : Addr} (hp : g ≠ p.block) (u : Value) : Blk (w.setCell p u) g t cs := (Below.heap_setCell w p u g hp).trans h
theorem Blk.set_ (h : Blk w g t cs) (i : Nat) (u : Value) : Blk (w.setCell ⟨g, i, none⟩ u) g t (cs.set i u) := by
  unfold Blk at h ⊢
  simp [World.setCell, Array.getElem?_modify, h, List.setIfInBounds_toArray]
theorem Blk.of_own {base e : Nat} {n c : Nat} {xs : List Value} (h : w.ownsRow base e 1 (.slice (some ⟨g, 0, none⟩) n c) n xs) (hnc : n = c) : Blk w g e xs := by
  rcases h.2 with ⟨hv, _⟩ | ⟨g', cap, cur, hv, _, hg, _, _, hs, ht⟩
  · cases hv
  · injection hv with h1 h2 h3
    injection h1 with h1
    injection h1 with h1
    subst h1 h3 hnc
    rw [Nat.mul_one] at hs ht
    have : cur.toList = xs := by rw [← ht, List.take_of_length_le (by simp [hs])]
    unfold Blk
    rw [hg, ← this]
end

/-- Parts that a call lays beside each other: one, two, three. -/
theorem rp1 (W : World) (t : TypeId) (B : Option Addr) (c : Nat) (xs : List UInt8) (hc : xs.length ≤ c) (h : RB W B xs) {g : Nat} (hg : g = W.heap.size) :
    RP (W.alloc (.cells #[.slice B xs.length c] t)) (some ⟨g, 0, none⟩) [xs] := by
  subst hg
  refine ⟨[.slice B xs.length c], rfl, (Blk.new W t _).rc, fun j hj => ?_⟩
  match j, hj with
  | 0, _ => exact ⟨B, c, rfl, hc, h.below ((Below.refl _ W).alloc (Nat.le_refl _) _)⟩
theorem rp2 (W : World) (t : TypeId) (B B2 : Option Addr) (c c2 : Nat) (xs ys : List UInt8) (hc : xs.length ≤ c) (hc2 : ys.length ≤ c2) (h : RB W B xs) (h2 : RB W B2 ys) {g : Nat} (hg : g = W.heap.size) :
    RP (W.alloc (.cells #[.slice B xs.length c, .slice B2 ys.length c2] t)) (some ⟨g, 0, none⟩) [xs, ys] := by
  subst hg
  refine ⟨[.slice B xs.length c, .slice B2 ys.length c2], rfl, (Blk.new W t _).rc, fun j hj => ?_⟩
  match j, hj with
  | 0, _ => exact ⟨B, c, rfl, hc, h.below ((Below.refl _ W).alloc (Nat.le_refl _) _)⟩
  | 1, _ => exact ⟨B2, c2, rfl, hc2, h2.below ((Below.refl _ W).alloc (Nat.le_refl _) _)⟩
theorem rp3 (W : World) (t : TypeId) (B B2 B3 : Option Addr) (c c2 c3 : Nat) (xs ys zs : List UInt8) (hc : xs.length ≤ c) (hc2 : ys.length ≤ c2) (hc3 : zs.length ≤ c3) (h : RB W B xs) (h2 : RB W B2 ys) (h3 : RB W B3 zs) {g : Nat} (hg : g = W.heap.size) :
    RP (W.alloc (.cells #[.slice B xs.length c, .slice B2 ys.length c2, .slice B3 zs.length c3] t)) (some ⟨g, 0, none⟩) [xs, ys, zs] := by
  subst hg
  refine ⟨[.slice B xs.length c, .slice B2 ys.length c2, .slice B3 zs.length c3], rfl, (Blk.new W t _).rc, fun j hj => ?_⟩
  match j, hj with
  | 0, _ => exact ⟨B, c, rfl, hc, h.below ((Below.refl _ W).alloc (Nat.le_refl _) _)⟩
  | 1, _ => exact ⟨B2, c2, rfl, hc2, h2.below ((Below.refl _ W).alloc (Nat.le_refl _) _)⟩
  | 2, _ => exact ⟨B3, c3, rfl, hc3, h3.below ((Below.refl _ W).alloc (Nat.le_refl _) _)⟩
theorem rc_at (W : World) (cs : List Value) (t : TypeId) (fr : Nat × Nat) {g : Nat} (hg : g = W.heap.size) : RC (W.alloc (.cells cs.toArray t fr)) (some ⟨g, 0, none⟩) cs := by
  subst hg
  have h := RC.block (heap_alloc_new W (.cells cs.toArray t fr))
  simpa using h
theorem rb_mark (W : World) (t : TypeId) (fr : Nat × Nat) (xs : List UInt8) {g : Nat} (hg : g = W.heap.size) : RB (W.alloc (.cells (xs.map bv).toArray t fr)) (some ⟨g, 0, none⟩) xs := by
  subst hg
  have h := RC.block (heap_alloc_new W (.cells (xs.map bv).toArray t fr))
  simpa [RB] using h
/-- '[]byte("..")' of a constant. -/
theorem run_const {P : Program} (t e : TypeId) (ht : P.underlying t = some (.slice e)) (he : P.underlying e = some (.int .u8)) (W : World) (g : Nat) (C : Array Value) (n c : Nat) (hg : g = W.heap.size) :
    (convert t t (.slice (some ⟨g, 0, none⟩) n c)).run P (W.alloc (.cells C e)) = .ok (.slice (some ⟨g, 0, none⟩) n c) (W.alloc (.cells C e (C.size, C.size + 1))) := by
  subst hg
  exact Lib.run_convert_bytes_const W t e C n c ht he
theorem rb_new (W : World) (t : TypeId) (xs : List UInt8) {g : Nat} (hg : g = W.heap.size) : RB (W.alloc (.cells (xs.map bv).toArray t)) (some ⟨g, 0, none⟩) xs := by subst hg; exact (Blk.new W t _).rc

theorem own_below {w w' : World} {base : Nat} {e : TypeId} {size n : Nat} {v : Value} {xs : List Value} (h : w.ownsRow base e size v n xs) (hb : Below w.heap.size w w') : w'.ownsRow base e size v n xs :=
  h.kept (row := none) ⟨hb.os, hb.tape, hb.output, hb.size, fun k hk _ => hb.block k hk⟩ (by cases hv : v.ownBlock <;> simp)
/-- What stands at the head of an owned row. -/
theorem own_form {w : World} {base : Nat} {e : TypeId} {n : Nat} {v : Value} {xs : List Value} (h : w.ownsRow base e 1 v n xs) : ∃ A c, v = .slice A n c ∧ n ≤ c ∧ RC w A xs ∧ xs.length = n := by
  have hl := h.1
  rcases h.2 with ⟨rfl, h0⟩ | ⟨g, cap, cur, rfl, _, _, hn, _⟩
  · subst h0
    exact ⟨none, 0, rfl, Nat.le_refl _, RC.of_own h, by omega⟩
  · exact ⟨_, cap, rfl, hn, RC.of_own h, by omega⟩

end Go.Proofs.Ytkgkbmiacomhdaa
