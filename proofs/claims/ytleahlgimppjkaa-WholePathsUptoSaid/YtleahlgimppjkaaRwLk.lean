/- The walk of Like. -/
import Derived.Test.YtleahlgimppjkaaPSame
import Derived.Test.YtleahlgimppjkaaPFlow
namespace Go.Proofs.Ytleahlgimppjkaa
set_option linter.unusedVariables false
set_option linter.unusedSimpArgs false
open Go.RowKit

theorem pko_lt {base : Nat} {w : World} {B : Option Addr} {d : Nat} {p : Pk} (h : PkO base w B d p) : ∀ ad, B = some ad → base ≤ ad.block ∧ ad.block < w.heap.size := fun ad e => own_lt h (by rw [e]; simp [Value.ownBlock])
theorem parse_c (b : List UInt8) (A : Option Addr) (n c : Nat) (w : World) (hn : b.length = n) (hA : RB w A b) (hc : n ≤ c) :
    Calls Try.prog 27 #[.slice A n c] w fun e w' => ∃ q B d E, e = .returned (.tuple #[pkv q B d, E]) ∧ PkD w' B d q ∧ Hid (∀ ad, B = some ad → w.heap.size ≤ ad.block ∧ ad.block < w'.heap.size) ∧ Hid ((IsPk b q ∧ E = .nilIface) ∨ ((∀ p, ¬ IsPk b p) ∧ E = er 2)) ∧ Below w.heap.size w w' := by
  by_cases h : IsPk b (opn b)
  · refine (parse_n b (opn b) A n c w hn hA hc h).mono ?_
    rintro e w' ⟨B, d, rfl, HO, hb⟩
    exact ⟨_, B, d, _, rfl, HO.pkd, pko_lt HO, .inl ⟨h, rfl⟩, hb⟩
  · have hno := fun q (hq : IsPk b q) => h (isPk_any hq)
    refine (parse_badn b A n c w hn hA hc hno).mono ?_
    rintro e w' ⟨rfl, hb⟩
    exact ⟨pk0, none, 0, _, rfl, ⟨Nat.le_refl _, fun j u hu => by simp [pk0] at hu⟩, (fun ad e => by cases e), .inr ⟨hno, rfl⟩, hb⟩
/-- Two are like one another. -/
def LikeP (a b : List UInt8) : Prop := ∃ p q, IsPk a p ∧ IsPk b q ∧ p.fl.proto = q.fl.proto ∧ { q with fl := p.fl } = p
/-- What Like answers. -/
def LPost (a b : List UInt8) (w : World) (e : Ending) (w' : World) : Prop := ∃ r, e = .returned (.bool r) ∧ Hid (r = true ↔ LikeP a b) ∧ Below w.heap.size w w'
theorem like_swap (p q : Pk) : { q with fl := p.fl } = p ↔ { p with fl := q.fl } = q := by
  obtain ⟨a0, a1, a2, a3, a4, a5, a6, a7, a8⟩ := p
  obtain ⟨e0, e1, e2, e3, e4, e5, e6, e7, e8⟩ := q
  simp only [Pk.mk.injEq, true_and]
  constructor
  · rintro ⟨rfl, rfl, rfl, rfl, rfl, rfl, rfl, rfl⟩
    exact ⟨rfl, rfl, rfl, rfl, rfl, rfl, rfl, rfl⟩
  · rintro ⟨rfl, rfl, rfl, rfl, rfl, rfl, rfl, rfl⟩
    exact ⟨rfl, rfl, rfl, rfl, rfl, rfl, rfl, rfl⟩
theorem like_of {a b : List UInt8} {p q : Pk} (hp : IsPk a p) (hq : IsPk b q) (he : p.fl.proto = q.fl.proto) : LikeP a b ↔ { q with fl := p.fl } = p := by
  constructor
  · rintro ⟨p', q', hp', hq', -, h⟩
    rw [isPk_inj hp hp', isPk_inj hq hq']
    exact h
  · intro h
    exact ⟨p, q, hp, hq, he, h⟩
set_option maxRecDepth 100000 in
set_option maxHeartbeats 6400000 in
theorem like_any (a b : List UInt8) (A B : Option Addr) (n c m d : Nat) (w : World) (hn : a.length = n) (hm : b.length = m) (hA : RB w A a) (hB : RB w B b) (hc : n ≤ c) (hd : m ≤ d) (hn2 : n ≤ 2000000) (hm2 : m ≤ 2000000) :
    Calls Try.prog 11 #[.slice A n c, .slice B m d] w fun e w' => LPost a b w e w' := by
  go_enter Try.func11, Try.ntmps11
  go_wp2_with fail
  (with_reducible refine (parse_c a A n c w hn hA hc).mono ?_)
  rintro e w1 ⟨p, B1, d1, E1, rfl, hpd, hbp, hcp, hb1⟩
  obtain ⟨cs, hcs⟩ : ∃ cs : Array Value, #[.int .i64 p.tos, .int .i64 p.id, .int .i64 p.ttl, .int .i64 p.fl.proto, .int .u32 p.fl.src, .int .i64 p.fl.sp, .int .u32 p.fl.dst, .int .i64 p.fl.dp, .int .u32 p.seq, .int .u32 p.ack, .int .i64 p.flags, .int .i64 p.win, .slice B1 p.data.length d1] = cs := ⟨_, rfl⟩
  have hsz : cs.size = 13 := by rw [← hcs]; rfl
  have hsl : cs.toList.length = 13 := by rw [← hcs]; rfl
  have hone : ∀ v ∈ cs.toList, v.oneCell' = true := by rw [← hcs]; exact pkc_one p B1 d1
  have hst := store_new (P := Try.prog) w1 cs hsl hone
  have hN : Below w1.heap.size w1 ((w1.alloc (.cells #[.int .i64 0, .int .i64 0, .int .i64 0, .int .i64 0, .int .u32 0, .int .i64 0, .int .u32 0, .int .i64 0, .int .u32 0, .int .u32 0, .int .i64 0, .int .i64 0, .slice none 0 0] 28)).setRow w1.heap.size cs) := below_row (below_al (Below.refl _ w1) _) (Nat.le_refl _)
  have hBa : Blk ((w1.alloc (.cells #[.int .i64 0, .int .i64 0, .int .i64 0, .int .i64 0, .int .u32 0, .int .i64 0, .int .u32 0, .int .i64 0, .int .u32 0, .int .u32 0, .int .i64 0, .int .i64 0, .slice none 0 0] 28)).setRow w1.heap.size cs) w1.heap.size 28 (pkc p B1 d1) := by rw [← hcs]; exact (Blk.new w1 28 (pkc pk0 none 0)).row (pkc p B1 d1)
  have hpd2 := hpd.below hN
  have hCa := below_call hb1 hN
  have hza := hb1.size
  clear hone hN
  generalize hga : w1.heap.size = g2 at *
  go_upto_region 2 with (fail)
  generalize (w1.alloc (.cells #[.int .i64 0, .int .i64 0, .int .i64 0, .int .i64 0, .int .u32 0, .int .i64 0, .int .u32 0, .int .i64 0, .int .u32 0, .int .u32 0, .int .i64 0, .int .i64 0, .slice none 0 0] 28)).setRow g2 cs = w2 at *
  clear hcs hsz hsl hst hb1
  have hs2 := hCa.size
  go_wp2_with fail
  (with_reducible refine (parse_c b B m d w2 hm (hB.below hCa) hd).mono ?_)
  rintro e w3 ⟨q, B2, d2, E2, rfl, hqd, hbq, hcq, hb3⟩
  obtain ⟨cs, hcs⟩ : ∃ cs : Array Value, #[.int .i64 q.tos, .int .i64 q.id, .int .i64 q.ttl, .int .i64 q.fl.proto, .int .u32 q.fl.src, .int .i64 q.fl.sp, .int .u32 q.fl.dst, .int .i64 q.fl.dp, .int .u32 q.seq, .int .u32 q.ack, .int .i64 q.flags, .int .i64 q.win, .slice B2 q.data.length d2] = cs := ⟨_, rfl⟩
  have hsz : cs.size = 13 := by rw [← hcs]; rfl
  have hsl : cs.toList.length = 13 := by rw [← hcs]; rfl
  have hone : ∀ v ∈ cs.toList, v.oneCell' = true := by rw [← hcs]; exact pkc_one q B2 d2
  have hst := store_new (P := Try.prog) w3 cs hsl hone
  have hN : Below w3.heap.size w3 ((w3.alloc (.cells #[.int .i64 0, .int .i64 0, .int .i64 0, .int .i64 0, .int .u32 0, .int .i64 0, .int .u32 0, .int .i64 0, .int .u32 0, .int .u32 0, .int .i64 0, .int .i64 0, .slice none 0 0] 28)).setRow w3.heap.size cs) := below_row (below_al (Below.refl _ w3) _) (Nat.le_refl _)
  have hBb : Blk ((w3.alloc (.cells #[.int .i64 0, .int .i64 0, .int .i64 0, .int .i64 0, .int .u32 0, .int .i64 0, .int .u32 0, .int .i64 0, .int .u32 0, .int .u32 0, .int .i64 0, .int .i64 0, .slice none 0 0] 28)).setRow w3.heap.size cs) w3.heap.size 28 (pkc q B2 d2) := by rw [← hcs]; exact (Blk.new w3 28 (pkc pk0 none 0)).row (pkc q B2 d2)
  have hqd4 := hqd.below hN
  have hCb := below_call hb3 hN
  have hzb := hb3.size
  clear hone hN
  generalize hgb : w3.heap.size = g4 at *
  go_upto_region 3 with (fail)
  generalize (w3.alloc (.cells #[.int .i64 0, .int .i64 0, .int .i64 0, .int .i64 0, .int .u32 0, .int .i64 0, .int .u32 0, .int .i64 0, .int .u32 0, .int .u32 0, .int .i64 0, .int .i64 0, .slice none 0 0] 28)).setRow g4 cs = w4 at *
  clear hcs hsz hsl hst hb3
  have hBa4 := hBa.kept hCb
  have hpd4 := hpd2.below hCb
  have hw4 := below_call hCa hCb
  have hg24 : g2 < g4 := by have := hBa.lt; omega
  have hg2s : g2 < w2.heap.size := hBa.lt
  have HB1 : Hid (∀ ad, B1 = some ad → ad.block ≠ g4) := fun ad e => by have := (hbp.out ad e).2; omega
  have HB2 : Hid (∀ ad, B2 = some ad → ad.block ≠ g4) := fun ad e => by have := hbq.out ad e; omega
  clear hpd hqd hBa hCa hCb hpd2
  rcases hcp.out with ⟨hp, rfl⟩ | ⟨hp, rfl⟩
  rotate_left
  · have HR : Hid (false = true ↔ LikeP a b) := ⟨fun h => (by cases h), fun ⟨p', q', h, _⟩ => absurd h (hp p')⟩
    clear hp
    go_wp2_with fail
    go_ret
    exact ⟨_, rfl, HR, hw4⟩
  have HP := Lib.hid hp
  clear hp
  rcases hcq.out with ⟨hq, rfl⟩ | ⟨hq, rfl⟩
  rotate_left
  · have HR : Hid (false = true ↔ LikeP a b) := ⟨fun h => (by cases h), fun ⟨p', q', _, h, _⟩ => absurd h (hq q')⟩
    clear hq
    go_wp2_with fail
    go_ret
    exact ⟨_, rfl, HR, hw4⟩
  have HQ := Lib.hid hq
  clear hq hcp hcq
  obtain ⟨c0, c1, c2, c3, c4, c5, c6, c7, c8, c9, c10, c11, c12⟩ := blk13 hBa4
  obtain ⟨e0, e1, e2, e3, e4, e5, e6, e7, e8, e9, e10, e11, e12⟩ := blk13 hBb
  by_cases he : p.fl.proto = q.fl.proto
  rotate_left
  · have HR : Hid (false = true ↔ LikeP a b) := ⟨fun h => (by cases h), fun ⟨p', q', h1, h2, h3, _⟩ => absurd h3 (by rw [isPk_inj h1 HP.out, isPk_inj h2 HQ.out]; exact he)⟩
    have hpe : (p.fl.proto == q.fl.proto) = false := beq_eq_false_iff_ne.2 he
    have hpn : (p.fl.proto != q.fl.proto) = true := by simp [he]
    clear he
    go_wp2_with fail
    go_ret
    exact ⟨_, rfl, HR, hw4⟩
  have HLK := Lib.hid (like_of HP.out HQ.out he)
  have hpn : (p.fl.proto != q.fl.proto) = false := by simp [he]
  clear he
  go_upto_region 5 with (fail)
  obtain ⟨fs, hfs⟩ : ∃ fs : Array Value, #[.int .i64 p.fl.proto, .int .u32 p.fl.src, .int .i64 p.fl.sp, .int .u32 p.fl.dst, .int .i64 p.fl.dp] = fs := ⟨_, rfl⟩
  have hsz : fs.size = 5 := by rw [← hfs]; rfl
  have hOwn1 : ∀ ad, B2 = some ad → ad.block ≠ g4 := HB2.out
  have hOwn2 : ∀ ad, B1 = some ad → ad.block ≠ g4 := HB1.out
  have hst0 := run_storeCells_at (P := Try.prog) g4 3 28 fs.toList 0 (pkc q B2 d2).toArray w4 hBb (by rw [← hfs]; simp) (by rw [← hfs]; simp [Value.oneCell'])
  obtain ⟨w5, hst, hB5, hb5, hOther, hK5, hK5b, hw5⟩ : ∃ w5, (storeCells ⟨g4, 3, none⟩ fs.toList).run Try.prog w4 = .ok () w5 ∧ Blk w5 g4 28 ((pkc q B2 d2).take 3 ++ fs.toList ++ (pkc q B2 d2).drop 8) ∧ True ∧ Blk w5 g2 28 (pkc p B1 d1) ∧ PkD w5 B2 d2 { q with fl := p.fl } ∧ PkD w5 B1 d1 p ∧ Below w.heap.size w w5 := by
    refine ⟨_, hst0, ?_, trivial, hBa4.row_far (by omega), ⟨hqd4.1, rb_row_far hqd4.2 hOwn1⟩, ⟨hpd4.1, rb_row_far hpd4.2 hOwn2⟩, below_row hw4 (by omega)⟩
    have h3 := Blk.row hBb ((pkc q B2 d2).take 3 ++ fs.toList ++ (pkc q B2 d2).drop 8)
    have hsl : fs.toList.length = 5 := by rw [← hfs]; rfl
    simpa [hsl] using h3
  clear hst0 hOwn1 hOwn2
  replace hB5 : Blk w5 g4 28 (pkc { q with fl := p.fl } B2 d2) := by rw [← hfs] at hB5; exact hB5
  clear hb5
  go_upto_region 6 with (fail)
  clear hst hfs hsz hpn c0 c1 c2 c3 c4 c5 c6 c7 c8 c9 c10 c11 c12 e0 e1 e2 e3 e4 e5 e6 e7 e8 e9 e10 e11 e12 hBa4 hBb
  obtain ⟨dd, hdd⟩ : ∃ dd, { q with fl := p.fl } = dd := ⟨_, rfl⟩
  have HXX := Lib.hid hdd
  rw [hdd] at hB5 hK5
  clear hdd
  obtain ⟨c0, c1, c2, c3, c4, c5, c6, c7, c8, c9, c10, c11, c12⟩ := blk13 hOther
  obtain ⟨e0, e1, e2, e3, e4, e5, e6, e7, e8, e9, e10, e11, e12⟩ := blk13 hB5
  go_wp2_with fail
  (with_reducible refine (psame_any p dd B1 B2 d1 d2 w5 hK5b hK5).mono ?_)
  rintro e w6 ⟨rfl, hb6⟩
  have hfin := below_call hw5 hb6
  have HR : Hid (sameP p dd = true ↔ LikeP a b) := by
    show _ ↔ _
    rw [HLK.out, sameP_iff, ← HXX.out]
    exact eq_comm
  clear c0 c1 c2 c3 c4 c5 c6 c7 c8 c9 c10 c11 c12 e0 e1 e2 e3 e4 e5 e6 e7 e8 e9 e10 e11 e12
  generalize sameP p dd = r at *
  go_wp2_with fail
  go_ret
  exact ⟨_, rfl, HR, hfin⟩
end Go.Proofs.Ytleahlgimppjkaa
