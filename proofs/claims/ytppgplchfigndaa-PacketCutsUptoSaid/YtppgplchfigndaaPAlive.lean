/- The fixed fact of layer 3. -/
import Derived.Test.YtppgplchfigndaaPSame
namespace Go.Proofs.Ytppgplchfigndaa
set_option linter.unusedVariables false
set_option linter.unusedSimpArgs false
open Go.RowKit

def exP : Pk := ⟨0, 0, 64, ⟨17, 16909060, 1, 84281096, 2⟩, 0, 0, 0, 0, []⟩
theorem exP_good : GoodP exP := by
  refine ⟨⟨.inr rfl, ?_, ?_⟩, ?_, ?_, ?_, ?_, ?_, fun _ => ⟨rfl, rfl, rfl, rfl⟩, ?_⟩ <;> simp [exP]
theorem exP_u32 : U32s exP := by simp [U32s, exP]
set_option maxHeartbeats 800000 in
theorem example_any (w : World) : Calls Try.prog 23 #[] w fun e w' => e = .returned (pkv exP none 0) ∧ Below w.heap.size w w' := by
  obtain ⟨cs, hcs⟩ : ∃ cs : Array Value, #[.int .i64 0, .int .i64 0, .int .i64 64, .int .i64 17, .int .u32 16909060, .int .i64 1, .int .u32 84281096, .int .i64 2, .int .u32 0, .int .u32 0, .int .i64 0, .int .i64 0, .slice none 0 0] = cs := ⟨_, rfl⟩
  have hsz : cs.size = 13 := by rw [← hcs]; rfl
  have hsl : cs.toList.length = 13 := by rw [← hcs]; rfl
  have hone : ∀ v ∈ cs.toList, v.oneCell' = true := by rw [← hcs]; simp [Value.oneCell']
  have hst := store_new (P := Try.prog) w cs hsl hone
  have hB : Blk ((w.alloc (.cells #[.int .i64 0, .int .i64 0, .int .i64 0, .int .i64 0, .int .u32 0, .int .i64 0, .int .u32 0, .int .i64 0, .int .u32 0, .int .u32 0, .int .i64 0, .int .i64 0, .slice none 0 0] 28)).setRow w.heap.size cs) w.heap.size 28 (pkc exP none 0) := by
    rw [← hcs]
    exact (Blk.new w 28 (pkc pk0 none 0)).row (pkc exP none 0)
  have hb : Below w.heap.size w ((w.alloc (.cells #[.int .i64 0, .int .i64 0, .int .i64 0, .int .i64 0, .int .u32 0, .int .i64 0, .int .u32 0, .int .i64 0, .int .u32 0, .int .u32 0, .int .i64 0, .int .i64 0, .slice none 0 0] 28)).setRow w.heap.size cs) := below_row ((Below.refl _ w).alloc (Nat.le_refl _) _) (Nat.le_refl _)
  clear hone
  go_enter Try.func23, Try.ntmps23
  go_wp2_with fail
  obtain ⟨c0, c1, c2, c3, c4, c5, c6, c7, c8, c9, c10, c11, c12⟩ := blk13 hB
  (try simp only [Exit.inBlock, Exit.then])
  refine bodyPost_ret (by simp [results, Try.results23, go_sem, c0, c1, c2, c3, c4, c5, c6, c7, c8, c9, c10, c11, c12]; try rfl) rfl ?_
  exact ⟨rfl, hb⟩

theorem parse_n (b : List UInt8) (p : Pk) (A : Option Addr) (n c : Nat) (w : World) (hn : b.length = n) (hA : RB w A b) (hc : n ≤ c) (h : IsPk b p) :
    Calls Try.prog 16 #[.slice A n c] w fun e w' => ∃ B d, e = .returned (.tuple #[pkv p B d, .nilIface]) ∧ PkO w.heap.size w' B d p ∧ Below w.heap.size w w' := by
  subst hn
  exact parse_good b p A c w hA hc h
set_option maxRecDepth 100000 in
set_option maxHeartbeats 3200000 in
theorem alive_any (w : World) : Calls Try.prog 9 #[] w fun e w' => e = .returned (.bool true) ∧ Below w.heap.size w w' := by
  have hG := exP_good
  have hU := exP_u32
  have hl : (build exP).length = 28 := by rw [build_len]; rfl
  have h0 : b1 (build exP) 0 = 69 := by show b1 (front exP (segS exP).length (cks (front exP (segS exP).length 0)) ++ segS exP) 0 = _; rw [front_cons]; rfl
  have h3 : b1 (build exP) 3 = 28 := by
    show b1 (front exP (segS exP).length (cks (front exP (segS exP).length 0)) ++ segS exP) 3 = _
    rw [front_cons, show (segS exP).length = 8 from seg_len _ _]; rfl
  have h9 : b1 (build exP) 9 = 17 := by show b1 (front exP (segS exP).length (cks (front exP (segS exP).length 0)) ++ segS exP) 9 = _; rw [front_cons]; rfl
  have hI : IsPk (build exP) exP := ⟨hG, hU, rfl⟩
  go_enter Try.func9, Try.ntmps9
  go_wp2_with fail
  (with_reducible refine (example_any w).mono ?_)
  rintro e wa ⟨rfl, hba⟩
  have hD : PkD wa none 0 exP := ⟨Nat.le_refl _, fun j u hu => by simp [exP] at hu⟩
  generalize hp : exP = p at *
  have HP := Lib.hid hp
  clear hp
  have HI := Lib.hid hI
  have HS := Lib.hid (sameP_self p)
  clear hI
  go_wp2_with fail
  (with_reducible refine (pbuild_good p none 0 wa hD hG hU).mono ?_)
  rintro e w1 ⟨v, rfl, hO, hb1⟩
  clear hG hU
  generalize build p = xb at *
  rw [hl] at hO
  have HL := Lib.hid hl
  clear hl
  obtain ⟨A, k, rfl, hk, hR, -⟩ := own_form hO
  replace hR : RB w1 A xb := hR
  obtain ⟨ax, rfl, x0⟩ := hR.at_ 0 (by rw [HL.out]; omega)
  have x3 := rb_b1 hR 3 (by rw [HL.out]; omega) (by omega)
  have x9 := rb_b1 hR 9 (by rw [HL.out]; omega) (by omega)
  have x0' : w1.cell? ax = some (.int .u8 (b1 xb 0 : Int)) := by
    have e : ax.add 0 = ax := by unfold Addr.add; rw [if_pos rfl]
    rw [e] at x0
    rw [x0]
    unfold b1
    simp [List.getD, List.getElem?_eq_getElem (show 0 < xb.length by rw [HL.out]; omega)]
  rw [h0, show ((69 : Nat) : Int) = 69 from rfl] at x0'
  rw [h3, show ((28 : Nat) : Int) = 28 from rfl] at x3
  rw [h9, show ((17 : Nat) : Int) = 17 from rfl] at x9
  have hb1' := below_call hba hb1
  clear hO x0 h0 h3 h9
  go_wp2_with fail
  (with_reducible refine (parse_n xb p _ 28 k w1 HL.out hR hk HI.out).mono ?_)
  rintro e w2 ⟨B, d, rfl, HO, hb2⟩
  have hb2' := below_call hb1' hb2
  have x0 := cell_keep hb2 x0'
  replace x3 := cell_keep hb2 x3
  replace x9 := cell_keep hb2 x9
  have HOh := Lib.hid HO
  clear HO hR x0' hba hb1'
  obtain ⟨cs, hcs⟩ : ∃ cs : Array Value, #[.int .i64 p.tos, .int .i64 p.id, .int .i64 p.ttl, .int .i64 p.fl.proto, .int .u32 p.fl.src, .int .i64 p.fl.sp, .int .u32 p.fl.dst, .int .i64 p.fl.dp, .int .u32 p.seq, .int .u32 p.ack, .int .i64 p.flags, .int .i64 p.win, .slice B p.data.length d] = cs := ⟨_, rfl⟩
  have hsz : cs.size = 13 := by rw [← hcs]; rfl
  have hsl : cs.toList.length = 13 := by rw [← hcs]; rfl
  have hone : ∀ v ∈ cs.toList, v.oneCell' = true := by rw [← hcs]; exact pkc_one p B d
  have hst := store_new (P := Try.prog) w2 cs hsl hone
  have hbn : Below w2.heap.size w2 ((w2.alloc (.cells #[.int .i64 0, .int .i64 0, .int .i64 0, .int .i64 0, .int .u32 0, .int .i64 0, .int .u32 0, .int .i64 0, .int .u32 0, .int .u32 0, .int .i64 0, .int .i64 0, .slice none 0 0] 28)).setRow w2.heap.size cs) := below_row (below_al (Below.refl _ w2) _) (Nat.le_refl _)
  have hB2 : Blk ((w2.alloc (.cells #[.int .i64 0, .int .i64 0, .int .i64 0, .int .i64 0, .int .u32 0, .int .i64 0, .int .u32 0, .int .i64 0, .int .u32 0, .int .u32 0, .int .i64 0, .int .i64 0, .slice none 0 0] 28)).setRow w2.heap.size cs) w2.heap.size 28 (pkc p B d) := by
    rw [← hcs]
    exact (Blk.new w2 28 (pkc pk0 none 0)).row (pkc p B d)
  have HO3 := Lib.hid (HOh.out.below hbn)
  have hb3' := below_call hb2' hbn
  have hb3 := below_call (below_call hb1 hb2) hbn
  replace x0 := cell_keep hbn x0
  replace x3 := cell_keep hbn x3
  replace x9 := cell_keep hbn x9
  clear hone HOh
  generalize hg3 : w2.heap.size = g3 at *
  go_upto_region 5 with (fail)
  generalize (w2.alloc (.cells #[.int .i64 0, .int .i64 0, .int .i64 0, .int .i64 0, .int .u32 0, .int .i64 0, .int .u32 0, .int .i64 0, .int .u32 0, .int .u32 0, .int .i64 0, .int .i64 0, .slice none 0 0] 28)).setRow g3 cs = w3 at *
  obtain ⟨c0, c1, c2, c3, c4, c5, c6, c7, c8, c9, c10, c11, c12⟩ := blk13 hB2
  have hcur : Below w3.heap.size w3 w3.drew := Below.drew (Below.refl _ w3)
  have hpd : PkD w3 B d p := HO3.out.pkd
  have hdn : PkD w3 none 0 p := hD.below hb3
  clear hcs hsz hsl hst hB2 hbn
  go_region_held3 (fun w' => w'.cell? ⟨g3, 0, none⟩ = some (.int .i64 p.tos) ∧ w'.cell? ⟨g3, 1, none⟩ = some (.int .i64 p.id) ∧ w'.cell? ⟨g3, 2, none⟩ = some (.int .i64 p.ttl) ∧ w'.cell? ⟨g3, 3, none⟩ = some (.int .i64 p.fl.proto) ∧ w'.cell? ⟨g3, 4, none⟩ = some (.int .u32 p.fl.src) ∧ w'.cell? ⟨g3, 5, none⟩ = some (.int .i64 p.fl.sp) ∧ w'.cell? ⟨g3, 6, none⟩ = some (.int .u32 p.fl.dst) ∧ w'.cell? ⟨g3, 7, none⟩ = some (.int .i64 p.fl.dp) ∧ w'.cell? ⟨g3, 8, none⟩ = some (.int .u32 p.seq) ∧ w'.cell? ⟨g3, 9, none⟩ = some (.int .u32 p.ack) ∧ w'.cell? ⟨g3, 10, none⟩ = some (.int .i64 p.flags) ∧ w'.cell? ⟨g3, 11, none⟩ = some (.int .i64 p.win) ∧ w'.cell? ⟨g3, 12, none⟩ = some (.slice B p.data.length d) ∧ w'.cell? ax = some (.int .u8 69) ∧ w'.cell? ⟨ax.block, ax.off + 3, none⟩ = some (.int .u8 28) ∧ w'.cell? ⟨ax.block, ax.off + 9, none⟩ = some (.int .u8 17))
    (with_reducible exact ⟨cell_keep hcur c0, cell_keep hcur c1, cell_keep hcur c2, cell_keep hcur c3, cell_keep hcur c4, cell_keep hcur c5, cell_keep hcur c6, cell_keep hcur c7, cell_keep hcur c8, cell_keep hcur c9, cell_keep hcur c10, cell_keep hcur c11, cell_keep hcur c12, cell_keep hcur x0, cell_keep hcur x3, cell_keep hcur x9⟩)
    (first
      | (go_at_call 23; (with_reducible refine (example_any _).mono ?_); rintro e w6 ⟨rfl, hb6⟩; replace hcur := below_call hcur hb6; rw [HP.out])
      | (go_at_call 17; (with_reducible refine (psame_any p p B none d 0 _ (hpd.below hcur) (hdn.below hcur)).mono ?_); rintro e w6 ⟨rfl, hb6⟩; replace hcur := below_call hcur hb6; rw [HS.out]))
  all_goals
    go_wp2_with fail
    go_ret
    exact ⟨rfl, below_call hb3' hcur⟩
end Go.Proofs.Ytppgplchfigndaa
