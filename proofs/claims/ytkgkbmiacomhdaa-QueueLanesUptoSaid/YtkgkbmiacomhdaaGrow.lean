/- Appends of which it is told whether the old row was written or left; cells that lie elsewhere; rows of the call's own read and stored into. -/
import Derived.Test.YtkgkbmiacomhdaaApp
import Derived.ArgAppend
namespace Go.Proofs.Ytkgkbmiacomhdaa
set_option linter.unusedVariables false
set_option linter.unusedSimpArgs false
open Go.RowKit

theorem RC.grown {w w' : World} {A : Option Addr} {cs : List Value} {row : Option Nat} (h : RC w A cs) (hg : w.grownBy w' row) (hne : ∀ ad, A = some ad → some ad.block ≠ row) : RC w' A cs := fun j u hu => by
  obtain ⟨ad, e, hc⟩ := h j u hu
  refine ⟨ad, e, ?_⟩
  rw [hg.cell_far (ad.add j) (World.block_lt_of_cell? w _ hc) (by rw [add_block]; exact hne ad e)]
  exact hc
theorem RB.grown {w w' : World} {A : Option Addr} {xs : List UInt8} {row : Option Nat} (h : RB w A xs) (hg : w.grownBy w' row) (hne : ∀ ad, A = some ad → some ad.block ≠ row) : RB w' A xs := RC.grown h hg hne
theorem RC.lt {w : World} {A : Option Addr} {cs : List Value} (h : RC w A cs) (hn : 0 < cs.length) : ∃ ad, A = some ad ∧ ad.block < w.heap.size := by
  obtain ⟨ad, e, hc⟩ := h 0 cs[0] (by simp [hn])
  exact ⟨ad, e, by have := World.block_lt_of_cell? w _ hc; rwa [add_block] at this⟩
theorem own_headE {w : World} {base : Nat} {e : TypeId} {n : Nat} {v : Value} {xs : List Value} (h : w.ownsRow base e 1 v n xs) (hn : 0 < n) : ∃ g c, v = .slice (some ⟨g, 0, none⟩) n c ∧ base ≤ g ∧ g < w.heap.size := by
  rcases h.2 with ⟨hv, h0⟩ | ⟨g, cap, cur, hv, hb, hg, _⟩
  · omega
  · exact ⟨g, cap, hv, hb, (Array.getElem?_eq_some_iff.1 hg).1⟩
theorem own_cellE {w : World} {base : Nat} {e : TypeId} {g n c : Nat} {xs : List Value} (h : w.ownsRow base e 1 (.slice (some ⟨g, 0, none⟩) n c) n xs) (j : Nat) (hj : j < n) : w.cell? ⟨g, j, none⟩ = xs[j]? := h.cellAt j (by omega)

/-- How an append went: within the row, which stays where it is; or into a new one. -/
def App2 (w : World) (v : Value) (w' : World) (v' : Value) : Prop := (v'.ownBlock = v.ownBlock ∧ w.grownBy w' v.ownBlock) ∨ (w.grownBy w' none ∧ ∃ g, v'.ownBlock = some g ∧ w.heap.size ≤ g)
section
variable {P : Program} (w : World)
theorem run_app2 (base : Nat) (t ty e : TypeId) (i : TypeInfo) (z : Value) (size bytes : Nat) (ht : P.underlying t = some (.slice e)) (hi : P.info? e = some i) (hz : i.zero = some z)
    (hsize : i.size = size) (hby : i.bytes = bytes) (hzs : z.cells.size = size) (hsz : 0 < size)
    (v : Value) (n : Nat) (xs : List Value) (hown : w.ownsRow base e size v n xs)
    (ad : Addr) (m c : Nat) (hm : 0 < m) (news : List Value) (hl : news.length = m * size) (hr : RC w (some ad) news) (h1 : ∀ u ∈ news, u.oneCell' = true)
    (h63 : n + m ≤ maxLen) (hbytes : (n + m) * bytes ≤ 140737488355328) (hbase : base ≤ w.heap.size) :
    ∃ v' w', (Builtin.append_ #[t, t] ty #[v, .slice (some ad) m c]).run P w = .ok v' w' ∧ w'.ownsRow base e size v' (n + m) (xs ++ news) ∧ App2 w v w' v' := by
  have hcells : ∀ j u, news[j]? = some u → w.cell? (ad.add j) = some u := by
    intro j u hu
    obtain ⟨ad', h, hc⟩ := hr j u hu
    injection h with h
    subst h
    exact hc
  rcases hown.2 with ⟨rfl, rfl⟩ | ⟨g, cap, cur, rfl, hbg, hg, hnc, hcm, hcs, htake⟩
  · obtain ⟨v', w', hrun, h2, h3, h4, h5⟩ := run_append_own_at (P := P) w base t ty e i z size bytes ht hi hz hsize hby hzs hsz _ 0 xs hown ad m c news hl hcells h1 h63 hbytes hbase
    refine ⟨v', w', hrun, h2, .inr ⟨h3, ?_⟩⟩
    rcases h5 with h5 | h5
    · rcases h2.2 with ⟨_, h0⟩ | ⟨g, cap, cur, rfl, _⟩
      · omega
      · cases h5
    · exact ⟨_, h5, Nat.le_refl _⟩
  · by_cases hroom : n + m ≤ cap
    · obtain ⟨w', hrun, r1, r2⟩ := run_append_fits (P := P) w base t ty e i size ht hi hsize g n cap xs hown ad m c news hl hcells h1 hroom
      exact ⟨_, w', hrun, r1, .inl ⟨rfl, r2⟩⟩
    · obtain ⟨v', w', hrun, r1, r2⟩ := run_append_arg_grows (P := P) w t ty e i z size bytes ht hi hz hsize hby hzs hsz ⟨g, 0, none⟩ n cap xs hown.1 (fun j u hu => hown.cells (g := g) rfl j u hu) ad m c news hl hcells (by omega) h63 hbytes
      refine ⟨v', w', hrun, ?_, .inr ⟨r2, ?_⟩⟩
      · exact own_weaken r1 hbase
      · rcases r1.2 with ⟨_, h0⟩ | ⟨g', cap', cur', rfl, hb', _⟩
        · omega
        · exact ⟨g', rfl, hb'⟩
theorem wl_app2 {ops : Array Oper} {rest : List Oper} {o : Oper} {a : Act} {Q : Exit → Act → World → Prop} (hgd : o.guard = none) (s x : Operand) (t : TypeId)
    (ho : o.op = .call { callee := .builtin .append, args := #[s, x], argTypes := #[t, t] })
    (base : Nat) (e : TypeId) (i : TypeInfo) (z : Value) (size bytes : Nat) (ht : P.underlying t = some (.slice e)) (hi : P.info? e = some i) (hz : i.zero = some z)
    (hsize : i.size = size) (hby : i.bytes = bytes) (hzs : z.cells.size = size) (hsz : 0 < size)
    (v : Value) (n : Nat) (xs : List Value) (hs : a.eval s = v) (hown : w.ownsRow base e size v n xs)
    (ad : Addr) (m c : Nat) (hm : 0 < m) (news : List Value) (hx : a.eval x = .slice (some ad) m c) (hl : news.length = m * size) (hr : RC w (some ad) news) (h1 : ∀ u ∈ news, u.oneCell' = true)
    (h63 : n + m ≤ maxLen) (hbytes : (n + m) * bytes ≤ 140737488355328) (hbase : base ≤ w.heap.size)
    (h : ∀ v' w', w'.ownsRow base e size v' (n + m) (xs ++ news) → App2 w v w' v' → wpList P ops Q rest (a.put o.dst v') w') : wpList P ops Q (o :: rest) a w :=
  wpList_plain hgd fun K hK => by
    obtain ⟨v', w', hrun, h2, h3⟩ := run_app2 (P := P) w base t o.type e i z size bytes ht hi hz hsize hby hzs hsz v n xs hown ad m c hm news hl hr h1 h63 hbytes hbase
    unfold Oper.wp execOp
    simp only [ho, resolve, invoke, builtin, Sem.run_bind, Sem.run_pure, Result.andThen_ok, List.map_toArray, List.map_cons, List.map_nil, hs, hx, hrun]
    exact hK _ _ (h v' w' h2 h3)
end
theorem own_lt {w : World} {base : Nat} {e : TypeId} {size n : Nat} {v : Value} {xs : List Value} (h : w.ownsRow base e size v n xs) {g : Nat} (hg : v.ownBlock = some g) : base ≤ g ∧ g < w.heap.size := h.lt g hg
theorem slice_own (a : Addr) (n c : Nat) : (Value.slice (some a) n c).ownBlock = some a.block := rfl
theorem grown_below {w0 w w' : World} {g : Nat} (hb : Below w0.heap.size w0 w) (h : w.grownBy w' (some g)) (hg : w0.heap.size ≤ g) : Below w0.heap.size w0 w' := hb.grown h hb.size (fun k hk => by injection hk with hk; omega)
theorem grown_set (w : World) (g i : Nat) (u : Value) : w.grownBy (w.setCell ⟨g, i, none⟩ u) (some g) :=
  ⟨rfl, rfl, rfl, by simp [World.setCell], fun k hk hne => Below.heap_setCell _ _ _ _ (fun e => hne (by rw [e]))⟩
theorem own_ne {w : World} {base g e size n : Nat} {v : Value} {xs : List Value} (hg : g < base) (h : w.ownsRow base e size v n xs) : v.ownBlock = none ∨ v.ownBlock ≠ some g := by
  cases hv : v.ownBlock with
  | none => exact .inl rfl
  | some k => exact .inr (by have := (h.lt k hv).1; simp; omega)
theorem own_set {w : World} {base g i e size n : Nat} {v u : Value} {xs : List Value} (hg : g < base) (h : w.ownsRow base e size v n xs) : (w.setCell ⟨g, i, none⟩ u).ownsRow base e size v n xs := h.kept (grown_set w g i u) (own_ne hg h)
theorem own_ne' {w : World} {base g e size n : Nat} {v : Value} {xs : List Value} (hg : g < base) (h : w.ownsRow base e size v n xs) : some g ≠ v.ownBlock := by
  rcases own_ne hg h with h | h
  · rw [h]; simp
  · exact fun e => h e.symm
theorem blk_new {W : World} {g : Nat} {t : TypeId} {cs : List Value} (hg : g = W.heap.size) : Blk (W.alloc (.cells cs.toArray t)) g t cs := by
  subst hg
  exact Blk.new W t cs

theorem undrew {B : Nat} {a w : World} (h : Below B a w.drew) : Below B a w := ⟨h.os, h.tape, h.output, h.size, h.block⟩
theorem below_al {a w : World} (h : Below a.heap.size a w) (o : Obj) : Below a.heap.size a (w.alloc o) := h.alloc h.size o
theorem below_call {a w w' : World} (h : Below a.heap.size a w) (hb : Below w.heap.size w w') : Below a.heap.size a w' := h.trans (hb.mono h.size)
theorem blk_drew {w : World} {g : Nat} {t : TypeId} {cs : List Value} (h : Blk w g t cs) : Blk w.drew g t cs := h
theorem blk_undrew {w : World} {g : Nat} {t : TypeId} {cs : List Value} (h : Blk w.drew g t cs) : Blk w g t cs := h
theorem at_world {P : Program} {o : Oper} {a : Act} {K : Act → World → Prop} {Q : Exit → Act → World → Prop} {E c : Prop} [Decidable c] (W : World) (h : if c then Oper.wp P o a W K Q else E) : if c then Oper.wp P o a W K Q else E := h
theorem at_call {P : Program} {f : Nat} {args : Array Value} {R : Ending → World → Prop} (W : World) (h : Calls P f args W R) : Calls P f args W R := h
theorem at_blk {g : Nat} {t : TypeId} {cs : List Value} (W : World) (h : Blk W g t cs) : Blk W g t cs := h
theorem blk_gr {w w' : World} {g : Nat} {t : TypeId} {cs : List Value} {row : Option Nat} (hg : w.grownBy w' row) (hne : some g ≠ row) (h : Blk w g t cs) : Blk w' g t cs := h.grown hg hne
theorem blk_al {w : World} {g : Nat} {t : TypeId} {cs : List Value} {o : Obj} (h : Blk w g t cs) : Blk (w.alloc o) g t cs := h.alloc o
theorem blk_ald {w : World} {g : Nat} {t : TypeId} {cs : List Value} {o : Obj} (h : Blk w.drew g t cs) : Blk (w.alloc o).drew g t cs := (blk_undrew h).alloc o
theorem blk_st3 {w : World} {g b i j k : Nat} {t : TypeId} {cs : List Value} {u v x : Value} (hne : g ≠ b) (h : Blk w g t cs) : Blk (((w.setCell ⟨b, i, none⟩ u).setCell ⟨b, j, none⟩ v).setCell ⟨b, k, none⟩ x) g t cs := ((h.far hne _).far hne _).far hne _
theorem below_gr {a w w' : World} {g : Nat} (hg : w.grownBy w' (some g)) (hge : a.heap.size ≤ g) (h : Below a.heap.size a w) : Below a.heap.size a w' := grown_below h hg hge
theorem below_cl {a w w' : World} (hb : Below w.heap.size w w') (h : Below a.heap.size a w) : Below a.heap.size a w' := below_call h hb
theorem below_all {a w : World} {o : Obj} (h : Below a.heap.size a w) : Below a.heap.size a (w.alloc o) := below_al h o
theorem below_ald {a w : World} {o : Obj} (h : Below a.heap.size a w.drew) : Below a.heap.size a (w.alloc o).drew := Below.drew (below_al (undrew h) o)
theorem below_st3 {a w : World} {b i j k : Nat} {u v x : Value} (hne : a.heap.size ≤ b) (h : Below a.heap.size a w) : Below a.heap.size a (((w.setCell ⟨b, i, none⟩ u).setCell ⟨b, j, none⟩ v).setCell ⟨b, k, none⟩ x) := ((h.setCell hne _).setCell hne _).setCell hne _

section
variable {P : Program} (w : World)
/-- The second argument's own type does not count, where both are slices. -/
theorem append_types {t u e e' ty : TypeId} {args : Array Value} (ht : P.underlying t = some (.slice e)) (hu : P.underlying u = some (.slice e')) : (Builtin.append_ #[t, u] ty args).run P w = (Builtin.append_ #[t, t] ty args).run P w := by
  unfold Builtin.append_
  cases h0 : args[0]? with
  | none => simp [h0]
  | some s =>
    cases h1 : args[1]? with
    | none => simp [h0, h1]
    | some x =>
      simp only [h0, h1, List.getElem?_toArray, List.getElem?_cons_zero, List.getElem?_cons_succ, Sem.run_bind, run_underlying ht, run_underlying hu, Result.andThen_ok]
      cases s <;> simp [run_underlying ht, run_underlying hu]
/-- 'out = append(out, ys...)', ys of another type of slices. -/
theorem wl_appU {ops : Array Oper} {rest : List Oper} {o : Oper} {a : Act} {Q : Exit → Act → World → Prop} (hgd : o.guard = none) (s x : Operand) (t u : TypeId)
    (ho : o.op = .call { callee := .builtin .append, args := #[s, x], argTypes := #[t, u] })
    (base : Nat) (e e' : TypeId) (i : TypeInfo) (z : Value) (size bytes : Nat) (ht : P.underlying t = some (.slice e)) (hu : P.underlying u = some (.slice e')) (hi : P.info? e = some i) (hz : i.zero = some z)
    (hsize : i.size = size) (hby : i.bytes = bytes) (hzs : z.cells.size = size) (hsz : 0 < size)
    (v : Value) (n : Nat) (xs : List Value) (hs : a.eval s = v) (hown : w.ownsRow base e size v n xs)
    (A : Option Addr) (m c : Nat) (news : List Value) (hx : a.eval x = .slice A m c) (hl : news.length = m * size) (hr : RC w A news) (h1 : ∀ u ∈ news, u.oneCell' = true)
    (h63 : n + m ≤ maxLen) (hbytes : (n + m) * bytes ≤ 140737488355328) (hbase : base ≤ w.heap.size)
    (h : ∀ v' w', w'.ownsRow base e size v' (n + m) (xs ++ news) → w.grownBy w' v.ownBlock → At w v v' → wpList P ops Q rest (a.put o.dst v') w') : wpList P ops Q (o :: rest) a w :=
  wpList_plain hgd fun K hK => by
    obtain ⟨v', w', hrun, h2, h3, h4⟩ := run_app (P := P) w base t o.type e i z size bytes ht hi hz hsize hby hzs hsz v n xs hown A m c news hl hr h1 h63 hbytes hbase
    rw [← append_types w ht hu] at hrun
    unfold Oper.wp execOp
    simp only [ho, resolve, invoke, builtin, Sem.run_bind, Sem.run_pure, Result.andThen_ok, List.map_toArray, List.map_cons, List.map_nil, hs, hx, hrun]
    exact hK _ _ (h v' w' h2 h3 h4)
end
end Go.Proofs.Ytkgkbmiacomhdaa
