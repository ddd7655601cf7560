/- The walk of PacketCuts. -/
import Derived.Test.YtppgplchfigndaaPacketBackWalk
namespace Go.Proofs.Ytppgplchfigndaa
set_option linter.unusedVariables false
set_option linter.unusedSimpArgs false
open Go.RowKit

theorem b2_take (b : List UInt8) (k : Nat) (h : 4 ≤ k) : b2 (b.take k) 2 = b2 b 2 := by
  unfold b2 b1
  simp only [List.getD, List.getElem?_take]
  rw [if_pos (by omega), if_pos (by omega)]
theorem b2_app (b c : List UInt8) (h : 4 ≤ b.length) : b2 (b ++ c) 2 = b2 b 2 := by
  unfold b2 b1
  simp only [List.getD]
  rw [List.getElem?_append_left (by omega), List.getElem?_append_left (by omega)]
theorem parse_badn (b : List UInt8) (A : Option Addr) (n c : Nat) (w : World) (hn : b.length = n) (hA : RB w A b) (hc : n ≤ c) (h : ∀ p, ¬ IsPk b p) :
    Calls Try.prog 16 #[.slice A n c] w fun e w' => e = .returned (.tuple #[pkv pk0 none 0, er 2]) ∧ Below w.heap.size w w' := by
  subst hn
  exact parse_bad b A c w hA hc h
/-- A true beginning of a packet's bytes is none. -/
theorem cut_none {b : List UInt8} {p : Pk} (h : IsPk b p) {k : Nat} (hk : k < b.length) : ∀ q, ¬ IsPk (b.take k) q := by
  intro q hq
  obtain ⟨h1, h2, h3, h4⟩ := isPk_shape h
  obtain ⟨g1, g2, g3, g4⟩ := isPk_shape hq
  rw [List.length_take] at g1 g4
  rw [b2_take b k (by omega)] at g4
  omega
theorem more_none {b c : List UInt8} {p : Pk} (h : IsPk b p) (hc : c ≠ []) : ∀ q, ¬ IsPk (b ++ c) q := by
  intro q hq
  obtain ⟨h1, h2, h3, h4⟩ := isPk_shape h
  obtain ⟨g1, g2, g3, g4⟩ := isPk_shape hq
  have : 0 < c.length := List.length_pos_iff.2 hc
  rw [List.length_append] at g4
  rw [b2_app b c (by omega)] at g4
  omega
set_option maxRecDepth 100000 in
set_option maxHeartbeats 6400000 in
theorem PacketCuts_walk (p : Pk) (B0 : Option Addr) (e0' : Nat) (x : Int) (more : List UInt8) (A : Option Addr) (c : Nat) (w : World) (hd : PkD w B0 e0' p) (hu : U32s p) (hdl : p.data.length ≤ 1048576) (hc : more.length ≤ c) (hA : RB w A more) (hbl : more.length ≤ 1048576) :
    Calls Try.prog 7 #[pkv p B0 e0', .int .i64 x, .slice A more.length c] w fun e w' => e = .returned (.bool true) ∧ Below w.heap.size w w' := by
  have hb0 : Below w.heap.size w (w.alloc (.cells #[.int .i64 p.tos, .int .i64 p.id, .int .i64 p.ttl, .int .i64 p.fl.proto, .int .u32 p.fl.src, .int .i64 p.fl.sp, .int .u32 p.fl.dst, .int .i64 p.fl.dp, .int .u32 p.seq, .int .u32 p.ack, .int .i64 p.flags, .int .i64 p.win, .slice B0 p.data.length e0'] 28)) := (Below.refl _ w).alloc (Nat.le_refl _) _
  have hX : Blk (w.alloc (.cells #[.int .i64 p.tos, .int .i64 p.id, .int .i64 p.ttl, .int .i64 p.fl.proto, .int .u32 p.fl.src, .int .i64 p.fl.sp, .int .u32 p.fl.dst, .int .i64 p.fl.dp, .int .u32 p.seq, .int .u32 p.ack, .int .i64 p.flags, .int .i64 p.win, .slice B0 p.data.length e0'] 28)) w.heap.size 28 (pkc p B0 e0') := Blk.new w _ _
  go_enter Try.func7, Try.ntmps7
  go_wp2_with fail
  generalize w.alloc (.cells #[.int .i64 p.tos, .int .i64 p.id, .int .i64 p.ttl, .int .i64 p.fl.proto, .int .u32 p.fl.src, .int .i64 p.fl.sp, .int .u32 p.fl.dst, .int .i64 p.fl.dp, .int .u32 p.seq, .int .u32 p.ack, .int .i64 p.flags, .int .i64 p.win, .slice B0 p.data.length e0'] 28) = wa at *
  have hs0 : w.heap.size < wa.heap.size := hX.lt
  (with_reducible refine (alive_any wa).mono ?_)
  rintro e w1 ⟨rfl, hb1⟩
  have hw1 := below_call hb0 hb1
  have hs1 := hb1.size
  have hX1 := hX.kept hb1
  clear hX hb0 hb1
  obtain ⟨c0, c1, c2, c3, c4, c5, c6, c7, c8, c9, c10, c11, c12⟩ := blk13 hX1
  go_wp2_with fail
  (with_reducible refine (pbuild_any p B0 e0' w1 (hd.below hw1) hu).mono ?_)
  rintro e w2 ⟨v, E, rfl, hcase, hb2⟩
  have hw2 := below_call hw1 hb2
  have hs2 := hb2.size
  have hX2 := hX1.kept hb2
  clear hX1 hw1 hb2
  clear c0 c1 c2 c3 c4 c5 c6 c7 c8 c9 c10 c11 c12
  obtain ⟨c0, c1, c2, c3, c4, c5, c6, c7, c8, c9, c10, c11, c12⟩ := blk13 hX2
  rcases hcase.out with ⟨hg, rfl, hO⟩ | ⟨hg, rfl, rfl⟩
  rotate_left
  focus
    clear hcase
    go_wp2_with fail
    go_ret
    exact ⟨rfl, hw2⟩
  focus
    have hI : Hid (IsPk (build p) p) := ⟨hg, hu, rfl⟩
    have hsh := isPk_shape hI.out
    have hxl := hsh.2.1
    have hx0 := hsh.1
    clear hsh hcase hg hX2 c0 c1 c2 c3 c4 c5 c6 c7 c8 c9 c10 c11 c12
    generalize build p = xb at *
    obtain ⟨X, k, rfl, hk, hR, -⟩ := own_form hO
    replace hR : RB w2 X xb := hR
    have HO := Lib.hid hO
    clear hO
    by_cases hm : 2000 < more.length
    · have hm' : (2000 : Int) < (more.length : Int) := by omega
      go_wp2_with fail
      go_ret
      exact ⟨rfl, hw2⟩
    have hm' : ¬ (2000 : Int) < (more.length : Int) := by omega
    go_upto_region 6 with (fail)
    obtain ⟨y, hy0, hy⟩ : ∃ y : Nat, IntKind.u64.wrap x = (y : Int) ∧ y < 18446744073709551616 := by
      have h : 0 ≤ IntKind.u64.wrap x ∧ IntKind.u64.wrap x < 18446744073709551616 := by simp [IntKind.wrap, IntKind.bits, IntKind.signed]; omega
      exact ⟨(IntKind.u64.wrap x).toNat, by omega, by omega⟩
    obtain ⟨n, hn⟩ : ∃ n, n = xb.length := ⟨_, rfl⟩
    rw [← hn] at HO hk hxl hx0 ⊢
    have HN := Lib.hid hn.symm
    clear hn hm
    have hyn : y % n < n := Nat.mod_lt _ (by omega)
    have e1 : IntKind.u64.wrap (n : Int) = (n : Int) := IntWalk.u64_in _ (by omega)
    have e2 : IntKind.u64.wrap (((y % n : Nat) : Int)) = ((y % n : Nat) : Int) := IntWalk.u64_in _ (by omega)
    have e3 : IntKind.i64.wrap (((y % n : Nat) : Int)) = ((y % n : Nat) : Int) := IntWalk.i64_in _ (by omega)
    have e4 : (y : Int).tmod (n : Int) = ((y % n : Nat) : Int) := rfl
    have e5 : ¬ ((n : Int) = 0) := by omega
    obtain ⟨m, hmm⟩ : ∃ m, y % n = m := ⟨_, rfl⟩
    rw [hmm] at hyn e2 e3 e4
    clear hmm
    have m1 : (m : Int) ≤ (k : Int) := by omega
    go_wp2_with fail
    have ht : (xb.take m).length = m := by rw [List.length_take, HN.out]; omega
    have hno := Lib.hid (cut_none hI.out (show m < xb.length by rw [HN.out]; exact hyn))
    (with_reducible refine (parse_badn (xb.take m) X m k w2 ht (hR.take_ m) (by omega) hno.out).mono ?_)
    rintro e w3 ⟨rfl, hb3⟩
    have HZ : Hid (pk0 = pk0) := rfl
    generalize pk0 = q at *
    obtain ⟨cs, hcs⟩ : ∃ cs : Array Value, #[.int .i64 q.tos, .int .i64 q.id, .int .i64 q.ttl, .int .i64 q.fl.proto, .int .u32 q.fl.src, .int .i64 q.fl.sp, .int .u32 q.fl.dst, .int .i64 q.fl.dp, .int .u32 q.seq, .int .u32 q.ack, .int .i64 q.flags, .int .i64 q.win, .slice none q.data.length 0] = cs := ⟨_, rfl⟩
    have hsz : cs.size = 13 := by rw [← hcs]; rfl
    have hsl : cs.toList.length = 13 := by rw [← hcs]; rfl
    have hone : ∀ v ∈ cs.toList, v.oneCell' = true := by rw [← hcs]; exact pkc_one q none 0
    have hst := store_new (P := Try.prog) w3 cs hsl hone
    have hN : Below w3.heap.size w3 ((w3.alloc (.cells #[.int .i64 0, .int .i64 0, .int .i64 0, .int .i64 0, .int .u32 0, .int .i64 0, .int .u32 0, .int .i64 0, .int .u32 0, .int .u32 0, .int .i64 0, .int .i64 0, .slice none 0 0] 28)).setRow w3.heap.size cs) := below_row (below_al (Below.refl _ w3) _) (Nat.le_refl _)
    have hBa : Blk ((w3.alloc (.cells #[.int .i64 0, .int .i64 0, .int .i64 0, .int .i64 0, .int .u32 0, .int .i64 0, .int .u32 0, .int .i64 0, .int .u32 0, .int .u32 0, .int .i64 0, .int .i64 0, .slice none 0 0] 28)).setRow w3.heap.size cs) w3.heap.size 28 (pkc q none 0) := by rw [← hcs]; exact (Blk.new w3 28 (pkc pk0 none 0)).row (pkc q none 0)
    have hCa := below_call hb3 hN
    have hza := hb3.size
    clear hone hN
    generalize hga : w3.heap.size = g4 at *
    go_upto_region 7 with (fail)
    generalize (w3.alloc (.cells #[.int .i64 0, .int .i64 0, .int .i64 0, .int .i64 0, .int .u32 0, .int .i64 0, .int .u32 0, .int .i64 0, .int .u32 0, .int .u32 0, .int .i64 0, .int .i64 0, .slice none 0 0] 28)).setRow g4 cs = w4 at *
    clear hcs hsz hsl hst hb3
    have hw4 := below_call hw2 hCa
    have hs4 := hCa.size
    have hR4 := hR.below hCa
    have HA4 := Lib.hid (hA.below hw4)
    have HX := Lib.hid hA
    clear hBa hCa hR HO ht hno e1 e2 e3 e4 e5 m1 hy0 hy HZ
    obtain ⟨i0, hi, hz0, hz1, hz2⟩ := info_parts info_u8
    obtain ⟨mm, hmm⟩ : ∃ mm, mm = more.length := ⟨_, rfl⟩
    rw [← hmm] at hc hbl hm' ⊢
    have HM := Lib.hid hmm.symm
    clear hmm
    have hb4 : Below w4.heap.size w4 (w4.alloc (.cells #[] 5)) := (Below.refl _ w4).alloc (Nat.le_refl _) _
    go_wp2_with (at_builtin; refine wl_app _ rfl (.tmp 41) (.tmp 42) 26 rfl w4.heap.size 5 i0 (.int .u8 0) 1 1 Try.underlying26 hi hz0 hz1 hz2 rfl (by omega) _ _ _ rfl (own_empty w4 w4.heap.size 5 w4.heap.size rfl (Nat.le_refl _)) X n k (xb.map bv) rfl (by simp [HN.out]) (RB.below hR4 hb4) (one_bv xb) (by unfold maxLen; omega) (by omega) (by simp) ?_)
    intro v5 w5 hO5 hg5 _
    have hb5 : Below w4.heap.size w4 w5 := hb4.grown hg5 (by simp) (fun g hg => by simp [Value.ownBlock] at hg; omega)
    have hw5 := below_call hw4 hb5
    have hA5 := HA4.out.below hb5
    clear hg5 hb4 hR4
    go_wp2_with (at_builtin; refine wl_app _ rfl (.tmp 43) (.tmp 44) 26 rfl w4.heap.size 5 i0 (.int .u8 0) 1 1 Try.underlying26 hi hz0 hz1 hz2 rfl (by omega) v5 n (xb.map bv) rfl hO5 A mm c (more.map bv) rfl (by simp [HM.out]) hA5 (one_bv more) (by unfold maxLen; omega) (by omega) (by have := hb5.size; omega) ?_)
    intro v6 w6 hO6 hg6 _
    have hw6 : Below w.heap.size w w6 := hw5.grown hg6 hw5.size (fun g hg => by have := (own_lt hO5 hg).1; omega)
    rw [← List.map_append] at hO6
    obtain ⟨A6, k6, rfl, hk6, hR6, -⟩ := own_form hO6
    replace hR6 : RB w6 A6 (xb ++ more) := hR6
    have hl6 : (xb ++ more).length = n + mm := by rw [List.length_append, HN.out, HM.out]
    clear hO6 hg6 hO5 hb5 hw5 hA5 HA4
    go_wp2_with fail
    by_cases hm0 : mm = 0
    · subst hm0
      have he : xb ++ more = xb := by rw [List.eq_nil_of_length_eq_zero HM.out, List.append_nil]
      rw [he] at hR6 hl6
      (with_reducible refine (parse_n xb p A6 (n + 0) k6 w6 hl6 hR6 hk6 hI.out).mono ?_)
      rintro e w7 ⟨B7, d7, rfl, HO, hb7⟩
      obtain ⟨cs, hcs⟩ : ∃ cs : Array Value, #[.int .i64 p.tos, .int .i64 p.id, .int .i64 p.ttl, .int .i64 p.fl.proto, .int .u32 p.fl.src, .int .i64 p.fl.sp, .int .u32 p.fl.dst, .int .i64 p.fl.dp, .int .u32 p.seq, .int .u32 p.ack, .int .i64 p.flags, .int .i64 p.win, .slice B7 p.data.length d7] = cs := ⟨_, rfl⟩
      have hsz : cs.size = 13 := by rw [← hcs]; rfl
      have hsl : cs.toList.length = 13 := by rw [← hcs]; rfl
      have hone : ∀ v ∈ cs.toList, v.oneCell' = true := by rw [← hcs]; exact pkc_one p B7 d7
      have hst := store_new (P := Try.prog) w7 cs hsl hone
      have hN : Below w7.heap.size w7 ((w7.alloc (.cells #[.int .i64 0, .int .i64 0, .int .i64 0, .int .i64 0, .int .u32 0, .int .i64 0, .int .u32 0, .int .i64 0, .int .u32 0, .int .u32 0, .int .i64 0, .int .i64 0, .slice none 0 0] 28)).setRow w7.heap.size cs) := below_row (below_al (Below.refl _ w7) _) (Nat.le_refl _)
      have hBb : Blk ((w7.alloc (.cells #[.int .i64 0, .int .i64 0, .int .i64 0, .int .i64 0, .int .u32 0, .int .i64 0, .int .u32 0, .int .i64 0, .int .u32 0, .int .u32 0, .int .i64 0, .int .i64 0, .slice none 0 0] 28)).setRow w7.heap.size cs) w7.heap.size 28 (pkc p B7 d7) := by rw [← hcs]; exact (Blk.new w7 28 (pkc pk0 none 0)).row (pkc p B7 d7)
      have HOb := Lib.hid (HO.below hN)
      clear HO
      have hCb := below_call hb7 hN
      have hzb := hb7.size
      clear hone hN
      generalize hgb : w7.heap.size = g8 at *
      go_upto_region 8 with (fail)
      generalize (w7.alloc (.cells #[.int .i64 0, .int .i64 0, .int .i64 0, .int .i64 0, .int .u32 0, .int .i64 0, .int .u32 0, .int .i64 0, .int .u32 0, .int .u32 0, .int .i64 0, .int .i64 0, .slice none 0 0] 28)).setRow g8 cs = w8 at *
      clear hcs hsz hsl hst hb7
      have hw8 := below_call hw6 hCb
      have heq := er_eql 2 2 w8
      clear hBb HOb
      go_wp2_with fail
      go_ret
      exact ⟨rfl, hw8⟩
    · have hno := Lib.hid (more_none (c := more) hI.out (fun h => hm0 (by rw [← HM.out, h]; rfl)))
      (with_reducible refine (parse_badn (xb ++ more) A6 (n + mm) k6 w6 hl6 hR6 hk6 hno.out).mono ?_)
      rintro e w7 ⟨rfl, hb7⟩
      have HZ : Hid (pk0 = pk0) := rfl
      generalize pk0 = r at *
      obtain ⟨cs, hcs⟩ : ∃ cs : Array Value, #[.int .i64 r.tos, .int .i64 r.id, .int .i64 r.ttl, .int .i64 r.fl.proto, .int .u32 r.fl.src, .int .i64 r.fl.sp, .int .u32 r.fl.dst, .int .i64 r.fl.dp, .int .u32 r.seq, .int .u32 r.ack, .int .i64 r.flags, .int .i64 r.win, .slice none r.data.length 0] = cs := ⟨_, rfl⟩
      have hsz : cs.size = 13 := by rw [← hcs]; rfl
      have hsl : cs.toList.length = 13 := by rw [← hcs]; rfl
      have hone : ∀ v ∈ cs.toList, v.oneCell' = true := by rw [← hcs]; exact pkc_one r none 0
      have hst := store_new (P := Try.prog) w7 cs hsl hone
      have hN : Below w7.heap.size w7 ((w7.alloc (.cells #[.int .i64 0, .int .i64 0, .int .i64 0, .int .i64 0, .int .u32 0, .int .i64 0, .int .u32 0, .int .i64 0, .int .u32 0, .int .u32 0, .int .i64 0, .int .i64 0, .slice none 0 0] 28)).setRow w7.heap.size cs) := below_row (below_al (Below.refl _ w7) _) (Nat.le_refl _)
      have hBb : Blk ((w7.alloc (.cells #[.int .i64 0, .int .i64 0, .int .i64 0, .int .i64 0, .int .u32 0, .int .i64 0, .int .u32 0, .int .i64 0, .int .u32 0, .int .u32 0, .int .i64 0, .int .i64 0, .slice none 0 0] 28)).setRow w7.heap.size cs) w7.heap.size 28 (pkc r none 0) := by rw [← hcs]; exact (Blk.new w7 28 (pkc pk0 none 0)).row (pkc r none 0)
      have hCb := below_call hb7 hN
      have hzb := hb7.size
      clear hone hN
      generalize hgb : w7.heap.size = g8 at *
      go_upto_region 8 with (fail)
      generalize (w7.alloc (.cells #[.int .i64 0, .int .i64 0, .int .i64 0, .int .i64 0, .int .u32 0, .int .i64 0, .int .u32 0, .int .i64 0, .int .u32 0, .int .u32 0, .int .i64 0, .int .i64 0, .slice none 0 0] 28)).setRow g8 cs = w8 at *
      clear hcs hsz hsl hst hb7
      have hw8 := below_call hw6 hCb
      have heq := er_eql 2 2 w8
      have hm1 : ((mm : Int) == 0) = false := by simp; omega
      clear hBb
      go_wp2_with fail
      go_ret
      exact ⟨rfl, hw8⟩
theorem PacketCutsX_walk {H : Type} {da : DataW H} (p : Pk) (v : Value) (x : Int) (b : List UInt8) (A : Option Addr) (c : Nat) (w : World) (o : PktIs w v da p) (b0 : Rows.uptoBulk da ≤ 1048576) (_u : (Lit.int .i64 x).wf = true) (hc : b.length ≤ c) (hA : RB w A b) (lb : b.length ≤ 1048576) :
    Calls Try.prog 7 #[v, .int .i64 x, .slice A b.length c] w fun e w' => e = .returned (.bool true) ∧ Below w.heap.size w w' := by
  obtain ⟨B0, e0', rfl, h1, h2, h3⟩ := o
  exact PacketCuts_walk p B0 e0' x b A c w h1 h2 (by have := h1.1; omega) hc hA lb
end Go.Proofs.Ytppgplchfigndaa
