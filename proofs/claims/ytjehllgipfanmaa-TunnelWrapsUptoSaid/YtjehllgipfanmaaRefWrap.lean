/- The walks of the document's Byte, Wrap. -/
import Derived.Test.YtjehllgipfanmaaTunAlive
import Derived.Test.YtjehllgipfanmaaRefPParseT
namespace Go.Proofs.Ytjehllgipfanmaa
set_option linter.unusedVariables false
set_option linter.unusedSimpArgs false
open Go.RowKit

theorem be4_get (m k : Nat) (hk : k < 4) : k < (be 4 m).length := by rw [be_len]; exact hk
set_option maxHeartbeats 800000 in
theorem byte_any (m k : Nat) (w : World) (hm : m ≤ 4294967295) (hk : k < 4) :
    Calls Try.prog 23 #[.int .u32 (m : Int), .int .i64 (k : Int)] w fun e w' => e = .returned (.int .i64 (((be 4 m)[k]'(be4_get m k hk)).toNat : Int)) ∧ w' = w := by
  obtain rfl | rfl | rfl | rfl : k = 0 ∨ k = 1 ∨ k = 2 ∨ k = 3 := by omega
  · obtain ⟨q, hq⟩ : ∃ q, q = m / 16777216 := ⟨_, rfl⟩
    have e1 : (m : Int) / 16777216 = (q : Int) := by omega
    have e2 : IntKind.i64.wrap (q : Int) = (q : Int) := IntWalk.i64_in _ (by omega)
    have e3 : (q : Int).tmod 256 = ((q % 256 : Nat) : Int) := rfl
    have e4 : IntKind.i64.wrap ((q % 256 : Nat) : Int) = ((q % 256 : Nat) : Int) := IntWalk.i64_in _ (by omega)
    have HV : Hid (((be 4 m)[0]'(be4_get m 0 hk)).toNat = q % 256) := by
      show ((be 4 m)[0]'(be4_get m 0 hk)).toNat = _
      simp only [be4, hq]
      show (UInt8.ofNat _).toNat = _
      rw [UInt8.toNat_ofNat']
    rw [HV.out]
    obtain ⟨r, hr⟩ : ∃ r, q % 256 = r := ⟨_, rfl⟩
    rw [hr] at e3 e4 ⊢
    clear hr hq
    rw [show ((0 : Nat) : Int) = 0 from rfl]
    go_enter Try.func23, Try.ntmps23
    go_wp2_with fail
    go_ret
    exact ⟨rfl, rfl⟩
  · obtain ⟨q, hq⟩ : ∃ q, q = m / 65536 := ⟨_, rfl⟩
    have e1 : (m : Int) / 65536 = (q : Int) := by omega
    have e2 : IntKind.i64.wrap (q : Int) = (q : Int) := IntWalk.i64_in _ (by omega)
    have e3 : (q : Int).tmod 256 = ((q % 256 : Nat) : Int) := rfl
    have e4 : IntKind.i64.wrap ((q % 256 : Nat) : Int) = ((q % 256 : Nat) : Int) := IntWalk.i64_in _ (by omega)
    have HV : Hid (((be 4 m)[1]'(be4_get m 1 hk)).toNat = q % 256) := by
      show ((be 4 m)[1]'(be4_get m 1 hk)).toNat = _
      simp only [be4, hq]
      show (UInt8.ofNat _).toNat = _
      rw [UInt8.toNat_ofNat']
    rw [HV.out]
    obtain ⟨r, hr⟩ : ∃ r, q % 256 = r := ⟨_, rfl⟩
    rw [hr] at e3 e4 ⊢
    clear hr hq
    rw [show ((1 : Nat) : Int) = 1 from rfl]
    go_enter Try.func23, Try.ntmps23
    go_wp2_with fail
    go_ret
    exact ⟨rfl, rfl⟩
  · obtain ⟨q, hq⟩ : ∃ q, q = m / 256 := ⟨_, rfl⟩
    have e1 : (m : Int) / 256 = (q : Int) := by omega
    have e2 : IntKind.i64.wrap (q : Int) = (q : Int) := IntWalk.i64_in _ (by omega)
    have e3 : (q : Int).tmod 256 = ((q % 256 : Nat) : Int) := rfl
    have e4 : IntKind.i64.wrap ((q % 256 : Nat) : Int) = ((q % 256 : Nat) : Int) := IntWalk.i64_in _ (by omega)
    have HV : Hid (((be 4 m)[2]'(be4_get m 2 hk)).toNat = q % 256) := by
      show ((be 4 m)[2]'(be4_get m 2 hk)).toNat = _
      simp only [be4, hq]
      show (UInt8.ofNat _).toNat = _
      rw [UInt8.toNat_ofNat']
    rw [HV.out]
    obtain ⟨r, hr⟩ : ∃ r, q % 256 = r := ⟨_, rfl⟩
    rw [hr] at e3 e4 ⊢
    clear hr hq
    rw [show ((2 : Nat) : Int) = 2 from rfl]
    go_enter Try.func23, Try.ntmps23
    go_wp2_with fail
    go_ret
    exact ⟨rfl, rfl⟩
  · obtain ⟨q, hq⟩ : ∃ q, q = m := ⟨_, rfl⟩
    have e1 : (m : Int) = (q : Int) := by omega
    have e2 : IntKind.i64.wrap (q : Int) = (q : Int) := IntWalk.i64_in _ (by omega)
    have e3 : (q : Int).tmod 256 = ((q % 256 : Nat) : Int) := rfl
    have e4 : IntKind.i64.wrap ((q % 256 : Nat) : Int) = ((q % 256 : Nat) : Int) := IntWalk.i64_in _ (by omega)
    have HV : Hid (((be 4 m)[3]'(be4_get m 3 hk)).toNat = q % 256) := by
      show ((be 4 m)[3]'(be4_get m 3 hk)).toNat = _
      simp only [be4, hq]
      show (UInt8.ofNat _).toNat = _
      rw [UInt8.toNat_ofNat']
    rw [HV.out]
    obtain ⟨r, hr⟩ : ∃ r, q % 256 = r := ⟨_, rfl⟩
    rw [hr] at e3 e4 ⊢
    clear hr hq
    rw [show ((3 : Nat) : Int) = 3 from rfl]
    go_enter Try.func23, Try.ntmps23
    go_wp2_with fail
    go_ret
    exact ⟨rfl, rfl⟩
theorem rparse_n (b : List UInt8) (A : Option Addr) (n c : Nat) (w : World) (hn : b.length = n) (hA : RB w A b) (hc : n ≤ c) (hl : n ≤ 4000000) :
    Calls Try.prog 22 #[.slice A n c] w fun e w' => RPost w b e w' := by
  subst hn
  exact rparse_any b A c w hA hc hl
set_option maxRecDepth 100000 in
set_option maxHeartbeats 6400000 in
theorem rwrap_no (src dst : Int) (b : List UInt8) (A : Option Addr) (n c : Nat) (w : World) (hn : b.length = n) (hA : RB w A b) (hc : n ≤ c) (hl : n ≤ 2000000) (h : ¬ IsPk b (opn b)) :
    Calls Try.prog 11 #[.int .u32 src, .int .u32 dst, .slice A n c] w fun e w' => e = .returned (.tuple #[.slice none 0 0, .int .i64 2]) ∧ Below w.heap.size w w' := by
  have HN := Lib.hid hn
  have H := Lib.hid h
  clear h hn
  go_enter Try.func11, Try.ntmps11
  go_wp2_with fail
  (with_reducible refine (rparse_n b A n c w HN.out hA hc (by omega)).mono ?_)
  rintro e w1 ⟨hcase, hb1⟩
  rcases hcase with ⟨hI, -⟩ | ⟨-, rfl⟩
  · exact absurd hI H.out
  obtain ⟨q, hq⟩ : ∃ q, q = pk0 := ⟨_, rfl⟩
  rw [← hq]
  clear hq
  obtain ⟨cs, hcs⟩ : ∃ cs : Array Value, #[.int .i64 q.tos, .int .i64 q.id, .int .i64 q.ttl, .int .i64 q.fl.proto, .int .u32 q.fl.src, .int .i64 q.fl.sp, .int .u32 q.fl.dst, .int .i64 q.fl.dp, .int .u32 q.seq, .int .u32 q.ack, .int .i64 q.flags, .int .i64 q.win, .slice none q.data.length 0] = cs := ⟨_, rfl⟩
  have hsz : cs.size = 13 := by rw [← hcs]; rfl
  have hsl : cs.toList.length = 13 := by rw [← hcs]; rfl
  have hone : ∀ v ∈ cs.toList, v.oneCell' = true := by rw [← hcs]; exact pkc_one q none 0
  have hst := store_new (P := Try.prog) w1 cs hsl hone
  have hN : Below w1.heap.size w1 ((w1.alloc (.cells #[.int .i64 0, .int .i64 0, .int .i64 0, .int .i64 0, .int .u32 0, .int .i64 0, .int .u32 0, .int .i64 0, .int .u32 0, .int .u32 0, .int .i64 0, .int .i64 0, .slice none 0 0] 49)).setRow w1.heap.size cs) := below_row (below_al (Below.refl _ w1) _) (Nat.le_refl _)
  have hBa : Blk ((w1.alloc (.cells #[.int .i64 0, .int .i64 0, .int .i64 0, .int .i64 0, .int .u32 0, .int .i64 0, .int .u32 0, .int .i64 0, .int .u32 0, .int .u32 0, .int .i64 0, .int .i64 0, .slice none 0 0] 49)).setRow w1.heap.size cs) w1.heap.size 49 (pkc q none 0) := by rw [← hcs]; exact (Blk.new w1 49 (pkc pk0 none 0)).row (pkc q none 0)
  have hCa := below_call hb1 hN
  have hza := hb1.size
  clear hone hN
  generalize hga : w1.heap.size = g2 at *
  go_upto_region 2 with (fail)
  generalize (w1.alloc (.cells #[.int .i64 0, .int .i64 0, .int .i64 0, .int .i64 0, .int .u32 0, .int .i64 0, .int .u32 0, .int .i64 0, .int .u32 0, .int .u32 0, .int .i64 0, .int .i64 0, .slice none 0 0] 49)).setRow g2 cs = w2 at *
  clear hcs hsz hsl hst hb1
  go_wp2_with fail
  go_ret2
  exact ⟨rfl, hCa⟩
set_option maxRecDepth 100000 in
set_option maxHeartbeats 6400000 in
theorem rwrap_big (src dst : Int) (b : List UInt8) (A : Option Addr) (n c : Nat) (w : World) (hn : b.length = n) (hA : RB w A b) (hc : n ≤ c) (h : IsPk b (opn b)) (hbig : 1480 < n) :
    Calls Try.prog 11 #[.int .u32 src, .int .u32 dst, .slice A n c] w fun e w' => e = .returned (.tuple #[.slice none 0 0, .int .i64 4]) ∧ Below w.heap.size w w' := by
  have HN := Lib.hid hn
  have H := Lib.hid h
  have hl : n ≤ 1500 := by have := (isPk_shape h).2.1; omega
  have q20 : IntKind.i64.wrap (20 + (n : Int)) = 20 + (n : Int) := IntWalk.i64_in _ (by omega)
  have kb : (1500 : Int) < 20 + (n : Int) := by omega
  clear h hn
  go_enter Try.func11, Try.ntmps11
  go_wp2_with fail
  (with_reducible refine (rparse_n b A n c w HN.out hA hc (by omega)).mono ?_)
  rintro e w1 ⟨hcase, hb1⟩
  rcases hcase with ⟨-, B1, d1, rfl, HO⟩ | ⟨hno, -⟩
  rotate_left
  · exact absurd H.out hno
  generalize opn b = q at *
  obtain ⟨cs, hcs⟩ : ∃ cs : Array Value, #[.int .i64 q.tos, .int .i64 q.id, .int .i64 q.ttl, .int .i64 q.fl.proto, .int .u32 q.fl.src, .int .i64 q.fl.sp, .int .u32 q.fl.dst, .int .i64 q.fl.dp, .int .u32 q.seq, .int .u32 q.ack, .int .i64 q.flags, .int .i64 q.win, .slice B1 q.data.length d1] = cs := ⟨_, rfl⟩
  have hsz : cs.size = 13 := by rw [← hcs]; rfl
  have hsl : cs.toList.length = 13 := by rw [← hcs]; rfl
  have hone : ∀ v ∈ cs.toList, v.oneCell' = true := by rw [← hcs]; exact pkc_one q B1 d1
  have hst := store_new (P := Try.prog) w1 cs hsl hone
  have hN : Below w1.heap.size w1 ((w1.alloc (.cells #[.int .i64 0, .int .i64 0, .int .i64 0, .int .i64 0, .int .u32 0, .int .i64 0, .int .u32 0, .int .i64 0, .int .u32 0, .int .u32 0, .int .i64 0, .int .i64 0, .slice none 0 0] 49)).setRow w1.heap.size cs) := below_row (below_al (Below.refl _ w1) _) (Nat.le_refl _)
  have hBa : Blk ((w1.alloc (.cells #[.int .i64 0, .int .i64 0, .int .i64 0, .int .i64 0, .int .u32 0, .int .i64 0, .int .u32 0, .int .i64 0, .int .u32 0, .int .u32 0, .int .i64 0, .int .i64 0, .slice none 0 0] 49)).setRow w1.heap.size cs) w1.heap.size 49 (pkc q B1 d1) := by rw [← hcs]; exact (Blk.new w1 49 (pkc pk0 none 0)).row (pkc q B1 d1)
  have HOa := Lib.hid (HO.below hN)
  clear HO
  have hCa := below_call hb1 hN
  have hza := hb1.size
  clear hone hN
  generalize hga : w1.heap.size = g2 at *
  go_upto_region 2 with (fail)
  generalize (w1.alloc (.cells #[.int .i64 0, .int .i64 0, .int .i64 0, .int .i64 0, .int .u32 0, .int .i64 0, .int .u32 0, .int .i64 0, .int .u32 0, .int .u32 0, .int .i64 0, .int .i64 0, .slice none 0 0] 49)).setRow g2 cs = w2 at *
  clear hcs hsz hsl hst hb1
  go_wp2_with fail
  go_ret2
  exact ⟨rfl, hCa⟩
set_option maxRecDepth 100000 in
set_option maxHeartbeats 6400000 in
theorem rwrap_good (src dst : Int) (b : List UInt8) (A : Option Addr) (n cc0 : Nat) (w : World) (hs : U32 src) (hd : U32 dst) (hn : b.length = n) (hA : RB w A b) (hc : n ≤ cc0) (h : IsPk b (opn b)) (hl : n ≤ 1480) :
    Calls Try.prog 11 #[.int .u32 src, .int .u32 dst, .slice A n cc0] w fun e w' => ∃ v, e = .returned (.tuple #[v, .int .i64 0]) ∧ w'.ownsRow w.heap.size 5 1 v (20 + n) ((wrapB src dst b).map bv) ∧ Below w.heap.size w w' := by
  obtain ⟨i0, hi, hz0, hz1, hz2⟩ := info_parts info_u8
  obtain ⟨src, rfl⟩ := Int.eq_ofNat_of_zero_le hs.1
  obtain ⟨dst, rfl⟩ := Int.eq_ofNat_of_zero_le hd.1
  have hs2 : src ≤ 4294967295 := by have := hs.2; omega
  have hd2 : dst ≤ 4294967295 := by have := hd.2; omega
  have HN := Lib.hid hn
  have H := Lib.hid h
  have q20 : IntKind.i64.wrap (20 + (n : Int)) = ((20 + n : Nat) : Int) := by rw [IntWalk.i64_in _ (by omega)]; omega
  obtain ⟨m, hm⟩ : ∃ m, m = 20 + n := ⟨_, rfl⟩
  have HM := Lib.hid hm
  rw [← hm] at q20
  have kb : ¬ (1500 : Int) < (m : Int) := by omega
  obtain ⟨x, hx, HX⟩ : ∃ x : UInt8, ((m / 256 : Nat) : Int) % 256 = (x.toNat : Int) ∧ Hid (x = UInt8.ofNat ((20 + n) / 256)) := ⟨UInt8.ofNat ((20 + n) / 256), by rw [UInt8.toNat_ofNat']; omega, rfl⟩
  obtain ⟨y, hy, HY⟩ : ∃ y : UInt8, ((m % 256 : Nat) : Int) % 256 = (y.toNat : Int) ∧ Hid (y = UInt8.ofNat (20 + n)) := ⟨UInt8.ofNat (20 + n), by rw [UInt8.toNat_ofNat']; omega, rfl⟩
  have t1 : (m : Int).tdiv 256 = ((m / 256 : Nat) : Int) := rfl
  have t2 : (m : Int).tmod 256 = ((m % 256 : Nat) : Int) := rfl
  have t3 : IntKind.i64.wrap ((m / 256 : Nat) : Int) = ((m / 256 : Nat) : Int) := IntWalk.i64_in _ (by omega)
  have t4 : IntKind.i64.wrap ((m % 256 : Nat) : Int) = ((m % 256 : Nat) : Int) := IntWalk.i64_in _ (by omega)
  obtain ⟨ma, hma⟩ : ∃ a, m / 256 = a := ⟨_, rfl⟩
  obtain ⟨mb, hmb⟩ : ∃ a, m % 256 = a := ⟨_, rfl⟩
  rw [hma] at hx t1 t3
  rw [hmb] at hy t2 t4
  clear h hn hs hd hm hma hmb
  go_enter Try.func11, Try.ntmps11
  go_wp2_with fail
  (with_reducible refine (rparse_n b A n cc0 w HN.out hA hc (by omega)).mono ?_)
  rintro e w1 ⟨hcase, hb1⟩
  rcases hcase with ⟨-, B1, d1, rfl, HO⟩ | ⟨hno, -⟩
  rotate_left
  · exact absurd H.out hno
  generalize opn b = q at *
  obtain ⟨cs, hcs⟩ : ∃ cs : Array Value, #[.int .i64 q.tos, .int .i64 q.id, .int .i64 q.ttl, .int .i64 q.fl.proto, .int .u32 q.fl.src, .int .i64 q.fl.sp, .int .u32 q.fl.dst, .int .i64 q.fl.dp, .int .u32 q.seq, .int .u32 q.ack, .int .i64 q.flags, .int .i64 q.win, .slice B1 q.data.length d1] = cs := ⟨_, rfl⟩
  have hsz : cs.size = 13 := by rw [← hcs]; rfl
  have hsl : cs.toList.length = 13 := by rw [← hcs]; rfl
  have hone : ∀ v ∈ cs.toList, v.oneCell' = true := by rw [← hcs]; exact pkc_one q B1 d1
  have hst := store_new (P := Try.prog) w1 cs hsl hone
  have hN : Below w1.heap.size w1 ((w1.alloc (.cells #[.int .i64 0, .int .i64 0, .int .i64 0, .int .i64 0, .int .u32 0, .int .i64 0, .int .u32 0, .int .i64 0, .int .u32 0, .int .u32 0, .int .i64 0, .int .i64 0, .slice none 0 0] 49)).setRow w1.heap.size cs) := below_row (below_al (Below.refl _ w1) _) (Nat.le_refl _)
  have hBa : Blk ((w1.alloc (.cells #[.int .i64 0, .int .i64 0, .int .i64 0, .int .i64 0, .int .u32 0, .int .i64 0, .int .u32 0, .int .i64 0, .int .u32 0, .int .u32 0, .int .i64 0, .int .i64 0, .slice none 0 0] 49)).setRow w1.heap.size cs) w1.heap.size 49 (pkc q B1 d1) := by rw [← hcs]; exact (Blk.new w1 49 (pkc pk0 none 0)).row (pkc q B1 d1)
  have HOa := Lib.hid (HO.below hN)
  clear HO
  have hCa := below_call hb1 hN
  have hza := hb1.size
  clear hone hN
  generalize hga : w1.heap.size = g2 at *
  go_upto_region 2 with (fail)
  generalize (w1.alloc (.cells #[.int .i64 0, .int .i64 0, .int .i64 0, .int .i64 0, .int .u32 0, .int .i64 0, .int .u32 0, .int .i64 0, .int .u32 0, .int .u32 0, .int .i64 0, .int .i64 0, .slice none 0 0] 49)).setRow g2 cs = w2 at *
  clear hcs hsz hsl hst hb1
  clear hBa HOa hza hga H
  have hA2 := hA.below hCa
  go_upto_region 8 with (fail)
  have hO0 : (w2.alloc (.cells #[.int .u8 69, .int .u8 0, .int .u8 (x.toNat : Int), .int .u8 (y.toNat : Int), .int .u8 0, .int .u8 0, .int .u8 64, .int .u8 0, .int .u8 64, .int .u8 4, .int .u8 0, .int .u8 0] 5)).ownsRow w2.heap.size 5 1 (.slice (some ⟨w2.heap.size, 0, none⟩) 12 12) (12 + 0) ((oh x y ++ (be 4 src).take 0).map bv) := by
    rw [List.take_zero, List.append_nil]
    exact own_lit12 w2 w2.heap.size 5 w2.heap.size _ _ _ _ _ _ _ _ _ _ _ _ rfl (Nat.le_refl _)
  have hb0 : Below w2.heap.size w2 (w2.alloc (.cells #[.int .u8 69, .int .u8 0, .int .u8 (x.toNat : Int), .int .u8 (y.toNat : Int), .int .u8 0, .int .u8 0, .int .u8 64, .int .u8 0, .int .u8 64, .int .u8 4, .int .u8 0, .int .u8 0] 5)) := (Below.refl _ w2).alloc (Nat.le_refl _) _
  generalize w2.alloc (.cells #[.int .u8 69, .int .u8 0, .int .u8 (x.toNat : Int), .int .u8 (y.toNat : Int), .int .u8 0, .int .u8 0, .int .u8 64, .int .u8 0, .int .u8 64, .int .u8 4, .int .u8 0, .int .u8 0] 5) = wa at *
  have hlen : ∀ m, (be 4 m).length = 4 := fun m => be_len 4 m
  have HLEN := Lib.hid hlen
  clear hx hy t1 t2 t3 t4 q20 kb hlen
  go_wp2_with fail
  go_loopw [11, 12] (fun v i wr => ∃ k : Nat, k ≤ 4 ∧ i = .int .i64 (k : Int) ∧ Hid (wr.ownsRow w2.heap.size 5 1 v (12 + k) ((oh x y ++ (be 4 src).take k).map bv)) ∧ Below w2.heap.size w2 wr) (fun _ i _ => 4 - (intOf i).toNat)
  case atStart => exact ⟨0, by omega, rfl, hO0, hb0⟩
  case round =>
    obtain ⟨k, hk, hik, HO, hb⟩ := hrel
    obtain ⟨v0, hv0⟩ : ∃ v, v = u11 := ⟨_, rfl⟩
    subst hv0
    subst hik
    have hsr := hb.size
    by_cases hk4 : k < 4
    · have hki : (k : Int) < 4 := by omega
      have qk : IntKind.i64.wrap ((k : Int) + 1) = (k : Int) + 1 := IntWalk.i64_in _ (by omega)
      go_wp2_with fail
      (with_reducible refine (byte_any src k wr (by omega) hk4).mono ?_)
      rintro e w5 ⟨rfl, rfl⟩
      have HT := Lib.hid (take_snoc (be 4 src) k (be4_get src k hk4))
      generalize ((be 4 src)[k]'(be4_get src k hk4)) = z at *
      have hz : (z.toNat : Int) % 256 = (z.toNat : Int) := by have := z.toNat_lt; omega
      go_wp2_with (at_builtin; refine wl_app _ rfl (.tmp 39) (.tmp 44) 24 rfl w2.heap.size 5 i0 (.int .u8 0) 1 1 Try.underlying24 hi hz0 hz1 hz2 rfl (by omega) v0 (12 + k) ((oh x y ++ (be 4 src).take k).map bv) rfl (HO.out.alloc _) (some ⟨w5.heap.size, 0, none⟩) 1 1 [.int .u8 (z.toNat : Int)] rfl rfl (rc_at w5 [.int .u8 (z.toNat : Int)] _ _ rfl) (by simp [Value.oneCell']) (by unfold maxLen; omega) (by omega) (by simp; omega) ?_)
      intro v6 w6 hO6 hg6 _
      have hb6 : Below w2.heap.size w2 w6 := (hb.alloc hsr _).grown hg6 (by simp; omega) (fun j e => (HO.out.lt j e).1)
      have HO6 : Hid (w6.ownsRow w2.heap.size 5 1 v6 (12 + (k + 1)) ((oh x y ++ (be 4 src).take (k + 1)).map bv)) := by
        show w6.ownsRow _ _ _ _ _ _
        rw [HT.out, ← Nat.add_assoc]
        simpa only [List.map_append, List.map_take, List.append_assoc, List.map_cons, List.map_nil] using hO6
      clear hO6 hg6 HO
      go_wp2_with fail
      go_roundw
      case rel => exact ⟨k + 1, by omega, by go_num, HO6, hb6⟩
      case measure => simp [intOf]; omega
    · obtain rfl : k = 4 := by omega
      have hO4 := HO.out
      rw [List.take_of_length_le (by rw [be_len]; exact Nat.le_refl _)] at hO4
      have HO4 := Lib.hid hO4
      clear hO4 HO
      go_wp2_with fail
      go_loopw [11, 13] (fun v i wr => ∃ k : Nat, k ≤ 4 ∧ i = .int .i64 (k : Int) ∧ Hid (wr.ownsRow w2.heap.size 5 1 v (16 + k) ((oh x y ++ be 4 src ++ (be 4 dst).take k).map bv)) ∧ Below w2.heap.size w2 wr) (fun _ i _ => 4 - (intOf i).toNat)
      case atStart => exact ⟨0, by omega, rfl, (by rw [List.take_zero, List.append_nil]; exact HO4.out), hb⟩
      case round =>
        obtain ⟨k, hk, hik, HO, hb⟩ := hrel
        obtain ⟨v0, hv0⟩ : ∃ v, v = u11 := ⟨_, rfl⟩
        subst hv0
        subst hik
        have hsr := hb.size
        by_cases hk4 : k < 4
        · have hki : (k : Int) < 4 := by omega
          have qk : IntKind.i64.wrap ((k : Int) + 1) = (k : Int) + 1 := IntWalk.i64_in _ (by omega)
          go_wp2_with fail
          (with_reducible refine (byte_any dst k wr (by omega) hk4).mono ?_)
          rintro e w5 ⟨rfl, rfl⟩
          have HT := Lib.hid (take_snoc (be 4 dst) k (be4_get dst k hk4))
          generalize ((be 4 dst)[k]'(be4_get dst k hk4)) = z at *
          have hz : (z.toNat : Int) % 256 = (z.toNat : Int) := by have := z.toNat_lt; omega
          go_wp2_with (at_builtin; refine wl_app _ rfl (.tmp 50) (.tmp 55) 24 rfl w2.heap.size 5 i0 (.int .u8 0) 1 1 Try.underlying24 hi hz0 hz1 hz2 rfl (by omega) v0 (16 + k) ((oh x y ++ be 4 src ++ (be 4 dst).take k).map bv) rfl (HO.out.alloc _) (some ⟨w5.heap.size, 0, none⟩) 1 1 [.int .u8 (z.toNat : Int)] rfl rfl (rc_at w5 [.int .u8 (z.toNat : Int)] _ _ rfl) (by simp [Value.oneCell']) (by unfold maxLen; omega) (by omega) (by simp; omega) ?_)
          intro v6 w6 hO6 hg6 _
          have hb6 : Below w2.heap.size w2 w6 := (hb.alloc hsr _).grown hg6 (by simp; omega) (fun j e => (HO.out.lt j e).1)
          have HO6 : Hid (w6.ownsRow w2.heap.size 5 1 v6 (16 + (k + 1)) ((oh x y ++ be 4 src ++ (be 4 dst).take (k + 1)).map bv)) := by
            show w6.ownsRow _ _ _ _ _ _
            rw [HT.out, ← Nat.add_assoc]
            simpa only [List.map_append, List.map_take, List.append_assoc, List.map_cons, List.map_nil] using hO6
          clear hO6 hg6 HO
          go_wp2_with fail
          go_roundw
          case rel => exact ⟨v6, .int .i64 ((k : Int) + 1), _, _, _, _, _, _, _, _, _, _, _, ⟨k + 1, by omega, by go_num, HO6, hb6⟩, rfl⟩
          case measure => simp [intOf]; omega
        · obtain rfl : k = 4 := by omega
          have hO4 := HO.out
          rw [List.take_of_length_le (by rw [be_len]; exact Nat.le_refl _)] at hO4
          have HO4 := Lib.hid hO4
          clear hO4 HO
          have HF : Hid (oh x y ++ be 4 src ++ be 4 dst = front (oq src dst) n 0) := by
            show _ = front (oq src dst) n 0
            unfold oh front oq
            rw [HX.out, HY.out]
            simp only [be2]
            rfl
          have hO := HO4.out
          rw [HF.out] at hO
          obtain ⟨f, hf⟩ : ∃ f, front (oq src dst) n 0 = f := ⟨_, rfl⟩
          have hfl : f.length = 20 := by rw [← hf]; exact front_len _ _ _
          have HFF := Lib.hid hf
          rw [hf] at hO
          replace hO : wr.ownsRow w2.heap.size 5 1 v0 20 (f.map bv) := hO
          clear hf HF HO4
          obtain ⟨g, c, rfl, hg, hgl⟩ := own_headE hO (by omega)
          obtain ⟨A9, k9, e9, hk9, hR9, -⟩ := own_form hO
          injection e9 with e9 e10 e11
          subst e9 e11
          replace hR9 : RB wr (some ⟨g, 0, none⟩) f := hR9
          have hRP := rp1_o wr 24 (some ⟨g, 0, none⟩) 20 c f hfl hk9 hR9 rfl
          have hck := cks_le f
          obtain ⟨cf, hcf⟩ : ∃ cf, cks f = cf := ⟨_, rfl⟩
          have HCF := Lib.hid hcf
          rw [hcf] at hck
          clear hcf hR9
          go_wp2_with fail
          (with_reducible refine (rsum1_any f _ 1 _ hRP (by omega)).mono ?_)
          rintro e w5 ⟨rfl, hb5⟩
          rw [HCF.out]
          clear hRP
          have t1 : (cf : Int).tdiv 256 = ((cf / 256 : Nat) : Int) := rfl
          have t2 : (cf : Int).tmod 256 = ((cf % 256 : Nat) : Int) := rfl
          have t3 : IntKind.u16.wrap ((cf / 256 : Nat) : Int) = ((cf / 256 : Nat) : Int) := IntWalk.u16_in _ (by omega)
          have t4 : IntKind.u16.wrap ((cf % 256 : Nat) : Int) = ((cf % 256 : Nat) : Int) := IntWalk.u16_in _ (by omega)
          obtain ⟨a, ha, HA⟩ : ∃ x : UInt8, ((cf / 256 : Nat) : Int) % 256 = (x.toNat : Int) ∧ Hid (x = UInt8.ofNat (cf / 256)) := ⟨UInt8.ofNat (cf / 256), by rw [UInt8.toNat_ofNat']; omega, rfl⟩
          obtain ⟨d, hd5, HD⟩ : ∃ x : UInt8, ((cf % 256 : Nat) : Int) % 256 = (x.toNat : Int) ∧ Hid (x = UInt8.ofNat cf) := ⟨UInt8.ofNat cf, by rw [UInt8.toNat_ofNat']; omega, rfl⟩
          obtain ⟨ca, hca⟩ : ∃ a, cf / 256 = a := ⟨_, rfl⟩
          obtain ⟨cb, hcb⟩ : ∃ a, cf % 256 = a := ⟨_, rfl⟩
          rw [hca] at ha t1 t3
          rw [hcb] at hd5 t2 t4
          clear hca hcb
          have hOw := own_below (hO.alloc (.cells #[.slice (some ⟨g, 0, none⟩) 20 c] 24)) hb5
          have hbw : Below w2.heap.size w2 w5 := below_call (below_al hb _) hb5
          have c10 := own_cellE hOw 10 (by omega)
          have c11 := own_cellE hOw 11 (by omega)
          rw [List.getElem?_map, List.getElem?_eq_getElem (by omega)] at c10 c11
          simp only [Option.map_some] at c10 c11
          have f10 := hOw.frozenAt 10
          have f11 := hOw.frozenAt 11
          have hst1 := (hOw.stored 10 (.int .u8 (a.toNat : Int))).1
          have hst2 := (hst1.stored 11 (.int .u8 (d.toNat : Int))).1
          have hfin : Below w2.heap.size w2 ((w5.setCell ⟨g, 10, none⟩ (.int .u8 (a.toNat : Int))).setCell ⟨g, 11, none⟩ (.int .u8 (d.toNat : Int))) := (hbw.setCell (show w2.heap.size ≤ g from hg) _).setCell (show w2.heap.size ≤ g from hg) _
          have HFIN : Hid (((w5.setCell ⟨g, 10, none⟩ (.int .u8 (a.toNat : Int))).setCell ⟨g, 11, none⟩ (.int .u8 (d.toNat : Int))).ownsRow w2.heap.size 5 1 (.slice (some ⟨g, 0, none⟩) 20 c) 20 ((frontS (oq src dst) n).map bv)) := by
            show World.ownsRow _ _ _ _ _ _ _
            have e : (frontS (oq src dst) n).map bv = ((f.map bv).set 10 (.int .u8 (a.toNat : Int))).set 11 (.int .u8 (d.toNat : Int)) := by
              have h := front_set' (oq src dst) n cf
              show (front (oq src dst) n (cks (front (oq src dst) n 0))).map bv = _
              rw [HFF.out, HCF.out, ← h, HFF.out, ← HA.out, ← HD.out, List.map_set, List.map_set]
            rw [e]
            exact hst2
          clear hst1 hst2 hOw hO hb5
          generalize bv f[10] = o10 at *
          generalize bv f[11] = o11 at *
          go_upto_region 19 with (fail)
          generalize (w5.setCell ⟨g, 10, none⟩ (.int .u8 (a.toNat : Int))).setCell ⟨g, 11, none⟩ (.int .u8 (d.toNat : Int)) = w6 at *
          clear t1 t2 t3 t4 ha hd5 c10 c11 f10 f11
          have hA6 := hA2.below hfin
          have hs6 := hfin.size
          go_wp2_with (at_builtin; refine wl_app _ rfl (.tmp 70) (.tmp 71) 24 rfl w2.heap.size 5 i0 (.int .u8 0) 1 1 Try.underlying24 hi hz0 hz1 hz2 rfl (by omega) (.slice (some ⟨g, 0, none⟩) 20 c) 20 ((frontS (oq src dst) n).map bv) rfl HFIN.out A n cc0 (b.map bv) rfl (by rw [List.length_map, HN.out]; omega) hA6 (one_bv b) (by unfold maxLen; omega) (by omega) (by omega) ?_)
          intro v7 w7 hO7 hg7 _
          have hw7 : Below w.heap.size w w7 := (below_call hCa hfin).grown hg7 (by have := hCa.size; omega) (fun k e => by have := (HFIN.out.lt k e).1; have := hCa.size; omega)
          have HO7 : Hid (w7.ownsRow w.heap.size 5 1 v7 (20 + n) ((wrapB src dst b).map bv)) := by
            show w7.ownsRow _ _ _ _ _ _
            unfold wrapB
            rw [List.map_append, HN.out]
            exact own_weaken hO7 (by have := hCa.size; omega)
          clear hO7 hg7 HFIN
          go_wp2_with fail
          go_ret2
          exact ⟨_, rfl, HO7.out, hw7⟩
end Go.Proofs.Ytjehllgipfanmaa
