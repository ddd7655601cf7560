/- Packets as values. -/
import Derived.Test.YtbhdjalpkecbeaaFlow
import Derived.Test.YtbhdjalpkecbeaaPktPure
namespace Go.Proofs.Ytbhdjalpkecbeaa
set_option linter.unusedVariables false
set_option linter.unusedSimpArgs false
open Go.RowKit

abbrev pkc (p : Pk) (B : Option Addr) (d : Nat) : List Value := [.int .i64 p.tos, .int .i64 p.id, .int .i64 p.ttl, .int .i64 p.fl.proto, .int .u32 p.fl.src, .int .i64 p.fl.sp, .int .u32 p.fl.dst, .int .i64 p.fl.dp, .int .u32 p.seq, .int .u32 p.ack, .int .i64 p.flags, .int .i64 p.win, .slice B p.data.length d]
abbrev pkv (p : Pk) (B : Option Addr) (d : Nat) : Value := .agg #[.int .i64 p.tos, .int .i64 p.id, .int .i64 p.ttl, .int .i64 p.fl.proto, .int .u32 p.fl.src, .int .i64 p.fl.sp, .int .u32 p.fl.dst, .int .i64 p.fl.dp, .int .u32 p.seq, .int .u32 p.ack, .int .i64 p.flags, .int .i64 p.win, .slice B p.data.length d]
/-- The data of a packet lie at B. -/
def PkD (w : World) (B : Option Addr) (d : Nat) (p : Pk) : Prop := p.data.length ≤ d ∧ RB w B p.data
theorem PkD.below {w w' : World} {B : Option Addr} {d : Nat} {p : Pk} (h : PkD w B d p) (hb : Below w.heap.size w w') : PkD w' B d p := ⟨h.1, h.2.below hb⟩
theorem blk13 {w : World} {g : Nat} {t : TypeId} {p : Pk} {B : Option Addr} {d : Nat} (h : Blk w g t (pkc p B d)) :
    w.cell? ⟨g, 0, none⟩ = some (.int .i64 p.tos) ∧ w.cell? ⟨g, 1, none⟩ = some (.int .i64 p.id) ∧ w.cell? ⟨g, 2, none⟩ = some (.int .i64 p.ttl) ∧ w.cell? ⟨g, 3, none⟩ = some (.int .i64 p.fl.proto) ∧ w.cell? ⟨g, 4, none⟩ = some (.int .u32 p.fl.src) ∧ w.cell? ⟨g, 5, none⟩ = some (.int .i64 p.fl.sp) ∧ w.cell? ⟨g, 6, none⟩ = some (.int .u32 p.fl.dst) ∧ w.cell? ⟨g, 7, none⟩ = some (.int .i64 p.fl.dp) ∧
    w.cell? ⟨g, 8, none⟩ = some (.int .u32 p.seq) ∧ w.cell? ⟨g, 9, none⟩ = some (.int .u32 p.ack) ∧ w.cell? ⟨g, 10, none⟩ = some (.int .i64 p.flags) ∧ w.cell? ⟨g, 11, none⟩ = some (.int .i64 p.win) ∧ w.cell? ⟨g, 12, none⟩ = some (.slice B p.data.length d) :=
  ⟨h.cell 0, h.cell 1, h.cell 2, h.cell 3, h.cell 4, h.cell 5, h.cell 6, h.cell 7, h.cell 8, h.cell 9, h.cell 10, h.cell 11, h.cell 12⟩
theorem pk_set {w : World} {g : Nat} {t : TypeId} {p q : Pk} {B C : Option Addr} {d e : Nat} (h : Blk w g t (pkc p B d)) : Blk (((((((((((((w.setCell ⟨g, 0, none⟩ (.int .i64 q.tos)).setCell ⟨g, 1, none⟩ (.int .i64 q.id)).setCell ⟨g, 2, none⟩ (.int .i64 q.ttl)).setCell ⟨g, 3, none⟩ (.int .i64 q.fl.proto)).setCell ⟨g, 4, none⟩ (.int .u32 q.fl.src)).setCell ⟨g, 5, none⟩ (.int .i64 q.fl.sp)).setCell ⟨g, 6, none⟩ (.int .u32 q.fl.dst)).setCell ⟨g, 7, none⟩ (.int .i64 q.fl.dp)).setCell ⟨g, 8, none⟩ (.int .u32 q.seq)).setCell ⟨g, 9, none⟩ (.int .u32 q.ack)).setCell ⟨g, 10, none⟩ (.int .i64 q.flags)).setCell ⟨g, 11, none⟩ (.int .i64 q.win)).setCell ⟨g, 12, none⟩ (.slice C q.data.length e)) g t (pkc q C e) := by
  have h1 := (((((((((((((h.set_ 0 (.int .i64 q.tos)).set_ 1 (.int .i64 q.id)).set_ 2 (.int .i64 q.ttl)).set_ 3 (.int .i64 q.fl.proto)).set_ 4 (.int .u32 q.fl.src)).set_ 5 (.int .i64 q.fl.sp)).set_ 6 (.int .u32 q.fl.dst)).set_ 7 (.int .i64 q.fl.dp)).set_ 8 (.int .u32 q.seq)).set_ 9 (.int .u32 q.ack)).set_ 10 (.int .i64 q.flags)).set_ 11 (.int .i64 q.win)).set_ 12 (.slice C q.data.length e))
  simpa using h1
theorem pk_setB {a w : World} {g : Nat} {x0 x1 x2 x3 x4 x5 x6 x7 x8 x9 x10 x11 x12 : Value} (h : Below a.heap.size a w) (hg : a.heap.size ≤ g) : Below a.heap.size a (((((((((((((w.setCell ⟨g, 0, none⟩ x0).setCell ⟨g, 1, none⟩ x1).setCell ⟨g, 2, none⟩ x2).setCell ⟨g, 3, none⟩ x3).setCell ⟨g, 4, none⟩ x4).setCell ⟨g, 5, none⟩ x5).setCell ⟨g, 6, none⟩ x6).setCell ⟨g, 7, none⟩ x7).setCell ⟨g, 8, none⟩ x8).setCell ⟨g, 9, none⟩ x9).setCell ⟨g, 10, none⟩ x10).setCell ⟨g, 11, none⟩ x11).setCell ⟨g, 12, none⟩ x12) := (((((((((((((h.setCell hg _).setCell hg _).setCell hg _).setCell hg _).setCell hg _).setCell hg _).setCell hg _).setCell hg _).setCell hg _).setCell hg _).setCell hg _).setCell hg _).setCell hg _)
theorem pk_far {w : World} {g b : Nat} {t : TypeId} {cs : List Value} {x0 x1 x2 x3 x4 x5 x6 x7 x8 x9 x10 x11 x12 : Value} (hne : g ≠ b) (h : Blk w g t cs) : Blk (((((((((((((w.setCell ⟨b, 0, none⟩ x0).setCell ⟨b, 1, none⟩ x1).setCell ⟨b, 2, none⟩ x2).setCell ⟨b, 3, none⟩ x3).setCell ⟨b, 4, none⟩ x4).setCell ⟨b, 5, none⟩ x5).setCell ⟨b, 6, none⟩ x6).setCell ⟨b, 7, none⟩ x7).setCell ⟨b, 8, none⟩ x8).setCell ⟨b, 9, none⟩ x9).setCell ⟨b, 10, none⟩ x10).setCell ⟨b, 11, none⟩ x11).setCell ⟨b, 12, none⟩ x12) g t cs := (((((((((((((h.far hne _).far hne _).far hne _).far hne _).far hne _).far hne _).far hne _).far hne _).far hne _).far hne _).far hne _).far hne _).far hne _)
/-- All the cells of a block stored at once. -/
theorem store_all {P : Program} {w : World} {g : Nat} {t : TypeId} {old cs : List Value} (h : Blk w g t old) (hl : old.length = cs.length) (h1 : ∀ v ∈ cs, v.oneCell' = true) :
    (storeCells ⟨g, 0, none⟩ cs).run P w = .ok () (w.setRow g cs.toArray) := by
  have := run_storeCells_from (P := P) g t cs 0 old.toArray w h (by simpa using hl.symm) h1
  simpa using this
theorem Blk.row {w : World} {g : Nat} {t : TypeId} {old : List Value} (h : Blk w g t old) (cs : List Value) : Blk (w.setRow g cs.toArray) g t cs := setRow_heap w g old.toArray cs.toArray t (0, 0) h
theorem Blk.row_far {w : World} {g b : Nat} {t : TypeId} {cs : List Value} {c : Array Value} (h : Blk w g t cs) (hne : g ≠ b) : Blk (w.setRow b c) g t cs := (setRow_other w b g c hne).trans h
theorem below_row {a w : World} {g : Nat} {c : Array Value} (h : Below a.heap.size a w) (hg : a.heap.size ≤ g) : Below a.heap.size a (w.setRow g c) :=
  ⟨h.os, h.tape, h.output, by simpa [World.setRow] using h.size, fun k hk => (setRow_other w g k c (by omega)).trans (h.block k hk)⟩
end Go.Proofs.Ytbhdjalpkecbeaa
