/- The walk of QueueLanes. -/
import Derived.Test.YtkgkbmiacomhdaaLnSt
namespace Go.Proofs.Ytkgkbmiacomhdaa
set_option linter.unusedVariables false
set_option linter.unusedSimpArgs false
open Go.RowKit Go.Conc

theorem urgent_k (gl gu cu gp cp cap m k : Nat) (us vs : List Value) (ps : List (List UInt8)) (A : Option Addr) (c : Nat) (w : World) (h : La w gl gu cu gp cp cap us vs) (hv : us.length ≤ cap) (hcap : cap ≤ 4096) (hA : RP w A ps) (hm : ps.length = m) (hl : m ≤ 4000000) (hls : ∀ x ∈ ps, x.length ≤ 4000000) (hk : min m (cap - us.length) = k) :
    Calls Try.prog 28 #[.pointer (some ⟨gl, 0, none⟩), .slice A m c] w fun e w' => e = .returned (.int .i64 (k : Int)) ∧ ∃ news : List Value, La w' gl gu cu gp cp cap (us ++ news) vs ∧ Own w' w.heap.size news (ps.take k) ∧ w.grownBy w' (some cu) :=
  (urgent_n gl gu cu gp cp cap m us vs ps A c w h hv hcap hA hm hl hls).mono fun e w' ⟨n, he, news, hn, h1, h2, h3, h4⟩ => by
    have e1 : news.length = k := by rw [h1, hm]; exact hk
    rw [e1] at hn h3
    subst he hn
    exact ⟨rfl, news, h2, h3, h4⟩
theorem rput_kU (w0 : World) (base gm size m k : Nat) (oth mr : Value) (mv : List Value) (ps : List (List UInt8)) (A : Option Addr) (c : Nat) (w : World) (h : RqU w base gm (size : Int) oth mr mv) (hbs : base ≤ w.heap.size) (hml : mv.length ≤ size) (hsz : size ≤ 4096)
    (hA : RP w0 A ps) (hw0 : Below w0.heap.size w0 w) (hgm : w0.heap.size ≤ gm) (hb0 : w0.heap.size ≤ base) (hm : ps.length = m) (hl : m ≤ 4000000) (hls : ∀ x ∈ ps, x.length ≤ 4000000) (hk : min m (size - mv.length) = k) :
    Calls Try.prog 14 #[.pointer (some ⟨gm, 0, none⟩), .slice A m c] w fun e w' => e = .returned (.int .i64 (k : Int)) ∧ RPutU w base gm size oth mr.ownBlock mv ps k w' := by
  subst hm hk
  exact rput_anyU w0 base gm size oth mr mv ps A c w h hbs hml hsz hA hw0 hgm hb0 hl hls
theorem ln_w2U {w wa w1 w2 : World} {gl gu cu gp cp gm size : Nat} {xs ys : List (List UInt8)} {us vs mu mp : List Value} {ru rp : Value} (h : LnR w gl gu cu gp cp gm size xs ys us vs mu mp ru rp wa) (hb1 : Below wa.heap.size wa w1) (hg2 : w1.grownBy w2 (some cu)) :
    Rl w2 w.heap.size gm (size : Int) ru rp mu mp ∧ Below w.heap.size w w2 ∧ ChO w1 w2 ∧ w.heap.size ≤ w2.heap.size := by
  have hch2 := ChO.chan (h.l.u.2.kept hb1) hg2
  have b2 : Below w.heap.size w w2 := (below_call h.bel hb1).grown hg2 (by have := h.bel.size; have := hb1.size; omega) (fun q hq => by injection hq with hq; have := h.ids; unfold LaB at this; omega)
  exact ⟨rl_cho (h.m.kept hb1) hch2, b2, hch2, b2.size⟩
theorem ln_w3U {w wa w1 w2 w3 : World} {gl gu cu gp cp gm size k n cc : Nat} {xs ys ps : List (List UInt8)} {us vs mu mp cs : List Value} {ru rp : Value} {C : Option Addr} (h : LnR w gl gu cu gp cp gm size xs ys us vs mu mp ru rp wa) (hb1 : Below wa.heap.size wa w1) (hg2 : w1.grownBy w2 (some cu))
    (hr3 : RPutU w2 w.heap.size gm size rp ru.ownBlock mu ps k w3) (hown : w1.ownsRow wa.heap.size 42 1 (.slice C n cc) n cs) (hB : CpB w1 cs ps 0) :
    RC w3 C cs ∧ CpB w3 cs ps 0 ∧ Below w.heap.size w w3 ∧ ∀ go t c0, t ≠ 64 → t ≠ 42 → Blk w1 go t c0 → Blk w3 go t c0 := by
  obtain ⟨hm2, b2, hch2, hs2⟩ := ln_w2U h hb1 hg2
  obtain ⟨mr3, mnews, hm3, hmo3, hc3, hmb3⟩ := hr3
  have hrlt : ∀ b, ru.ownBlock = some b → b < wa.heap.size := fun b hb => (own_lt h.m.u hb).2
  have hgml := h.m.blk.lt
  have hown3 := hc3.row (own_cho hown hch2) (fun b hb e => by
    have := (own_lt hown hb).1
    rcases e with e | e
    · omega
    · have := hrlt b e; omega)
  refine ⟨RC.of_own hown3, fun j g a b x hj hv hx => ?_, b2.trans (hc3.below (B := w.heap.size) hs2 (fun b hb => by rcases hb with rfl | hb; exact h.ids.2; exact (own_lt h.m.u hb).1)), fun go t c0 ht1 ht2 hb => ?_⟩
  · have hb2 := (hB j g a b x hj hv hx).cho hch2
    exact hc3.blk hb2 (fun e => by
      rcases e with e | e
      · exact blk_ne_blk hb2 hm2.blk (by decide) e
      · exact own_blk_ne hm2.u hb2 (by decide) g e rfl)
  · have hb2 := hb.cho hch2
    exact hc3.blk hb2 (fun e => by
      rcases e with e | e
      · exact blk_ne_blk hb2 hm2.blk ht1 e
      · exact own_blk_ne hm2.u hb2 (Ne.symm ht2) go e rfl)
theorem plain_k (gl gu cu gp cp cap m k : Nat) (us vs : List Value) (ps : List (List UInt8)) (A : Option Addr) (c : Nat) (w : World) (h : La w gl gu cu gp cp cap us vs) (hv : vs.length ≤ cap) (hcap : cap ≤ 4096) (hA : RP w A ps) (hm : ps.length = m) (hl : m ≤ 4000000) (hls : ∀ x ∈ ps, x.length ≤ 4000000) (hk : min m (cap - vs.length) = k) :
    Calls Try.prog 27 #[.pointer (some ⟨gl, 0, none⟩), .slice A m c] w fun e w' => e = .returned (.int .i64 (k : Int)) ∧ ∃ news : List Value, La w' gl gu cu gp cp cap us (vs ++ news) ∧ Own w' w.heap.size news (ps.take k) ∧ w.grownBy w' (some cp) :=
  (plain_n gl gu cu gp cp cap m us vs ps A c w h hv hcap hA hm hl hls).mono fun e w' ⟨n, he, news, hn, h1, h2, h3, h4⟩ => by
    have e1 : news.length = k := by rw [h1, hm]; exact hk
    rw [e1] at hn h3
    subst he hn
    exact ⟨rfl, news, h2, h3, h4⟩
theorem rput_kP (w0 : World) (base gm size m k : Nat) (oth mr : Value) (mv : List Value) (ps : List (List UInt8)) (A : Option Addr) (c : Nat) (w : World) (h : RqP w base gm (size : Int) oth mr mv) (hbs : base ≤ w.heap.size) (hml : mv.length ≤ size) (hsz : size ≤ 4096)
    (hA : RP w0 A ps) (hw0 : Below w0.heap.size w0 w) (hgm : w0.heap.size ≤ gm) (hb0 : w0.heap.size ≤ base) (hm : ps.length = m) (hl : m ≤ 4000000) (hls : ∀ x ∈ ps, x.length ≤ 4000000) (hk : min m (size - mv.length) = k) :
    Calls Try.prog 14 #[.pointer (some ⟨gm, 2, none⟩), .slice A m c] w fun e w' => e = .returned (.int .i64 (k : Int)) ∧ RPutP w base gm size oth mr.ownBlock mv ps k w' := by
  subst hm hk
  exact rput_anyP w0 base gm size oth mr mv ps A c w h hbs hml hsz hA hw0 hgm hb0 hl hls
theorem ln_w2P {w wa w1 w2 : World} {gl gu cu gp cp gm size : Nat} {xs ys : List (List UInt8)} {us vs mu mp : List Value} {ru rp : Value} (h : LnR w gl gu cu gp cp gm size xs ys us vs mu mp ru rp wa) (hb1 : Below wa.heap.size wa w1) (hg2 : w1.grownBy w2 (some cp)) :
    Rl w2 w.heap.size gm (size : Int) ru rp mu mp ∧ Below w.heap.size w w2 ∧ ChO w1 w2 ∧ w.heap.size ≤ w2.heap.size := by
  have hch2 := ChO.chan (h.l.p.2.kept hb1) hg2
  have b2 : Below w.heap.size w w2 := (below_call h.bel hb1).grown hg2 (by have := h.bel.size; have := hb1.size; omega) (fun q hq => by injection hq with hq; have := h.ids; unfold LaB at this; omega)
  exact ⟨rl_cho (h.m.kept hb1) hch2, b2, hch2, b2.size⟩
theorem ln_w3P {w wa w1 w2 w3 : World} {gl gu cu gp cp gm size k n cc : Nat} {xs ys ps : List (List UInt8)} {us vs mu mp cs : List Value} {ru rp : Value} {C : Option Addr} (h : LnR w gl gu cu gp cp gm size xs ys us vs mu mp ru rp wa) (hb1 : Below wa.heap.size wa w1) (hg2 : w1.grownBy w2 (some cp))
    (hr3 : RPutP w2 w.heap.size gm size ru rp.ownBlock mp ps k w3) (hown : w1.ownsRow wa.heap.size 42 1 (.slice C n cc) n cs) (hB : CpB w1 cs ps 0) :
    RC w3 C cs ∧ CpB w3 cs ps 0 ∧ Below w.heap.size w w3 ∧ ∀ go t c0, t ≠ 64 → t ≠ 42 → Blk w1 go t c0 → Blk w3 go t c0 := by
  obtain ⟨hm2, b2, hch2, hs2⟩ := ln_w2P h hb1 hg2
  obtain ⟨mr3, mnews, hm3, hmo3, hc3, hmb3⟩ := hr3
  have hrlt : ∀ b, rp.ownBlock = some b → b < wa.heap.size := fun b hb => (own_lt h.m.p hb).2
  have hgml := h.m.blk.lt
  have hown3 := hc3.row (own_cho hown hch2) (fun b hb e => by
    have := (own_lt hown hb).1
    rcases e with e | e
    · omega
    · have := hrlt b e; omega)
  refine ⟨RC.of_own hown3, fun j g a b x hj hv hx => ?_, b2.trans (hc3.below (B := w.heap.size) hs2 (fun b hb => by rcases hb with rfl | hb; exact h.ids.2; exact (own_lt h.m.p hb).1)), fun go t c0 ht1 ht2 hb => ?_⟩
  · have hb2 := (hB j g a b x hj hv hx).cho hch2
    exact hc3.blk hb2 (fun e => by
      rcases e with e | e
      · exact blk_ne_blk hb2 hm2.blk (by decide) e
      · exact own_blk_ne hm2.p hb2 (by decide) g e rfl)
  · have hb2 := hb.cho hch2
    exact hc3.blk hb2 (fun e => by
      rcases e with e | e
      · exact blk_ne_blk hb2 hm2.blk ht1 e
      · exact own_blk_ne hm2.p hb2 (Ne.symm ht2) go e rfl)
theorem take2_k (B gl gu cu gp cp cap k : Nat) (us0 vs0 : List Value) (n : Int) (w : World) (h : La w gl gu cu gp cp cap us0 vs0) (hB : LaB B gl gu cu gp cp) (hbs : B ≤ w.heap.size) (h1 : ∀ v ∈ us0 ++ vs0, IsSl v) (hl : (us0 ++ vs0).length ≤ 1000000) (hk : min n.toNat (us0 ++ vs0).length = k) :
    Calls Try.prog 29 #[.pointer (some ⟨gl, 0, none⟩), .int .i64 n] w fun e w' => ∃ v, e = .returned v ∧ TakeR2 B w gl gu cu gp cp cap us0 vs0 k v w' := by
  subst hk
  exact take2_any B gl gu cu gp cp cap us0 vs0 n w h hB hbs h1 hl
theorem rtake_k (base gm k : Nat) (size : Int) (ru rp : Value) (us0 vs0 : List Value) (n : Int) (w : World) (h : Rl w base gm size ru rp us0 vs0) (hbs : base ≤ w.heap.size) (hsu : ∀ v ∈ us0, IsSl v) (hsv : ∀ v ∈ vs0, IsSl v) (hlu : us0.length ≤ 5000) (hlv : vs0.length ≤ 5000) (hk : min n.toNat (us0 ++ vs0).length = k) :
    Calls Try.prog 33 #[.pointer (some ⟨gm, 0, none⟩), .int .i64 n] w fun e w' => ∃ v, e = .returned v ∧ RTakeR w base gm size ru rp us0 vs0 k v w' := by
  subst hk
  exact rtake_any base gm size ru rp us0 vs0 n w h hbs hsu hsv hlu hlv
theorem ln_owl3 {wa w2 w3 : World} {base gm : Nat} {cs qs : List Value} {zs : List (List UInt8)} (ho : Owl wa base qs zs) (hch : ChO wa w2) (hm2 : Blk w2 gm 64 cs) (hg3 : w2.grownBy w3 (some gm)) : Owl w3 base qs zs :=
  (ho.cho hch).chg (Chg.of hg3 (S := fun b => b = gm) (fun b hb => by injection hb with hb; exact hb.symm)) (fun v hv b hb e => by obtain ⟨x, hox⟩ := (ho.cho hch).mem hv; exact own_blk_ne hox hm2 (by decide) b hb e)
theorem ln_cell2 {wa w2 w3 : World} {go gm : Nat} {a b c : Value} {cs : List Value} (hO : Blk wa go 37 [a, b, c]) (hch : ChO wa w2) (hm2 : Blk w2 gm 64 cs) (hg3 : w2.grownBy w3 (some gm)) : w3.cell? ⟨go, 2, none⟩ = some c :=
  ((hO.cho hch).grown hg3 (by simp; exact blk_ne_blk (hO.cho hch) hm2 (by decide))).cell 2
theorem llen_i (gl gu cu gp cp cap : Nat) (us vs : List Value) (n : Int) (w : World) (h : La w gl gu cu gp cp cap us vs) (h1 : us.length + vs.length ≤ 4000000) (hn : ((us.length + vs.length : Nat) : Int) = n) :
    Calls Try.prog 31 #[.pointer (some ⟨gl, 0, none⟩)] w fun e w' => e = .returned (.int .i64 n) ∧ ∃ k, w' = w.drewN k := by
  subst hn
  exact llen_any gl gu cu gp cp cap us vs w h h1
set_option maxRecDepth 100000 in
set_option maxHeartbeats 6400000 in
theorem QueueLanes_walk (n : Int) (ops : List QOp) (A : Option Addr) (c : Nat) (w : World) (hA : OpsAt w A ops) (hL : OpsLe ops) (hl : ops.length ≤ 1048576) :
    Calls Try.prog 7 #[.int .i64 n, .slice A ops.length c] w fun e w' => e = .returned (.bool true) ∧ Below w.heap.size w w' := by
  have HL := Lib.hid hL
  have HA := Lib.hid hA
  clear hL hA
  have hee := er_eql 4 4
  go_enter Try.func7, Try.ntmps7
  go_wp2_with fail
  (with_reducible refine (alive_any w).mono ?_)
  rintro e w1 ⟨rfl, hb1⟩
  by_cases hg : n < 0 ∨ 4096 < n
  · have HG := Lib.hid hg
    clear hg
    go_wp2_with fail
    (with_reducible refine (newl_bad n w1 HG.out).mono ?_)
    rintro e w2 ⟨rfl, rfl⟩
    go_wp2_with fail
    (with_reducible refine (good_no n w2 HG.out).mono ?_)
    rintro e w3 ⟨rfl, rfl⟩
    go_wp2_with fail
    go_ret
    exact ⟨rfl, hb1⟩
  obtain ⟨size, rfl⟩ : ∃ size : Nat, n = (size : Int) := ⟨n.toNat, by omega⟩
  have hs4 : size ≤ 4096 := by omega
  clear hg
  go_wp2_with fail
  (with_reducible refine (newl_good (size : Int) size w1 hs4 rfl).mono ?_)
  rintro e w2 ⟨gl, gu, cu, gp, cp, rfl, hla2, hlb2, hb2⟩
  have hbw2 := below_call hb1 hb2
  have hs1 := hb1.size
  go_wp2_with fail
  (with_reducible refine (good_yes (size : Int) w2 (by omega) (by omega)).mono ?_)
  rintro e w3 ⟨rfl, rfl⟩
  go_wp2_with fail
  (with_reducible refine (long_any ops A c w3 (HA.out.below hbw2) HL.out hl).mono ?_)
  rintro e w4 ⟨⟨lb, rfl⟩, hb4⟩
  have hbw4 := below_call hbw2 hb4
  cases lb with
  | true =>
    go_wp2_with fail
    go_ret
    exact ⟨rfl, hbw4⟩
  | false =>
    have hla4 := hla2.kept hb4
    have hws := hbw4.size
    have hst0 : Hid (LnSt w gl gu cu gp cp w4.heap.size size [] [] (w4.alloc (.cells #[.slice none 0 0, .int .i64 (size : Int), .slice none 0 0, .int .i64 (size : Int)] 64))) :=
      ⟨[], [], [], [], .slice none 0 0, .slice none 0 0, hla4.kept ((Below.refl _ w4).alloc (Nat.le_refl _) _), ⟨Blk.new w4 _ _, World.ownsRow_nil _ _ _ _, World.ownsRow_nil _ _ _ _, fun b hb => by cases hb⟩, Owl.nil _ _, Owl.nil _ _, Owl.nil _ _, Owl.nil _ _, ⟨Nat.zero_le _, Nat.zero_le _⟩, below_al hbw4 _, by unfold LaB at *; omega, by omega⟩
    clear hb1 hb2 hb4 hbw2 hla2 hla4 hlb2
    go_wp2_with fail
    go_loopw [58] (fun i wr => ∃ (k : Nat) (xs ys : List (List UInt8)), k ≤ ops.length ∧ i = .int .i64 (k : Int) ∧ Hid (∀ x ∈ xs ++ ys, x.length ≤ 1048576) ∧ Hid (LnSt w gl gu cu gp cp w4.heap.size size xs ys wr)) (fun i _ => ops.length - (intOf i).toNat)
    case atStart => exact ⟨0, [], [], Nat.zero_le _, rfl, fun x hx => (by cases hx), hst0⟩
    case round =>
      obtain ⟨k, xs, ys, hk, rfl, HX, HS⟩ := hrel
      clear hst0 hbw4 hws
      generalize w4.heap.size = gm at *
      by_cases hlt : k < ops.length
      · obtain ⟨us, vs, mu, mp, ru, rp, h⟩ := HS.out
        obtain ⟨ad, rfl, B, cb, hcc, hcb, hB⟩ := (HA.out.below h.bel) k hlt
        obtain ⟨ad', e', B', cb', hcc', hcb', hB'⟩ := HA.out k hlt
        injection e' with e'
        subst e'
        obtain ⟨hr1, hr2, hwf⟩ := HL.out ops[k] (List.getElem_mem hlt)
        have hBB : B' = B := by
          have h1 := hcc 1 _ rfl
          have h2 := cell_keep h.bel (hcc' 1 _ rfl)
          rw [h1] at h2
          injection h2 with h2
          injection h2 with h2
          exact h2.symm
        subst hBB
        have HB0 := Lib.hid hB'
        have HH := Lib.hid h
        clear hcc' hcb' hB' hB h
        generalize ops[k] = o at *
        obtain ⟨kd, ps, nn⟩ := o
        simp only at hcc hcb hr1 hr2 hwf HB0
        go_upto_region 12 with (with_reducible refine wl_load rfl 37 (.tmp 60) rfl _ rfl _ _ hcc Try.underlying37 rfl (by kernel_rfl) ?_)
        have h1 : LnR w gl gu cu gp cp gm size xs ys us vs mu mp ru rp (wr.alloc (.cells #[.int .i64 kd, .slice B' ps.length cb, .int .i64 nn] 37)) := HH.out.kept ((Below.refl _ wr).alloc (Nat.le_refl _) _)
        have hO : Blk (wr.alloc (.cells #[.int .i64 kd, .slice B' ps.length cb, .int .i64 nn] 37)) wr.heap.size 37 [.int .i64 kd, .slice B' ps.length cb, .int .i64 nn] := Blk.new wr _ _
        have H1 := Lib.hid h1
        clear HS HH h1 hcc
        generalize wr.alloc (.cells #[.int .i64 kd, .slice B' ps.length cb, .int .i64 nn] 37) = wa at *
        generalize wr.heap.size = go_ at *
        have o0 := hO.cell 0
        have o1 := hO.cell 1
        have o2 := hO.cell 2
        simp only [List.getElem?_cons_zero, List.getElem?_cons_succ] at o0 o1 o2
        have HB1 := Lib.hid (HB0.out.below H1.out.bel)
        have hls : ∀ x ∈ ps, x.length ≤ 4000000 := fun x hx => by have := total_mem hx; omega
        have HLS := Lib.hid hls
        have HXU : Hid (∀ k1, ∀ x ∈ (xs ++ ps.take k1) ++ ys, x.length ≤ 1048576) := fun k1 x hx => by
          rcases List.mem_append.1 hx with hx | hx
          · rcases List.mem_append.1 hx with hx | hx
            · exact HX.out x (List.mem_append_left _ hx)
            · have := total_mem (List.mem_of_mem_take hx); omega
          · exact HX.out x (List.mem_append_right _ hx)
        have HXP : Hid (∀ k1, ∀ x ∈ xs ++ (ys ++ ps.take k1), x.length ≤ 1048576) := fun k1 x hx => by
          rcases List.mem_append.1 hx with hx | hx
          · exact HX.out x (List.mem_append_left _ hx)
          · rcases List.mem_append.1 hx with hx | hx
            · exact HX.out x (List.mem_append_right _ hx)
            · have := total_mem (List.mem_of_mem_take hx); omega
        clear hls
        go_wp2_with fail
        (with_reducible refine (copies_any ps B' cb wa HB1.out (by omega) HLS.out).mono ?_)
        rintro e wc ⟨v, cs, rfl, hown, hcS, hcB, hbc⟩
        obtain ⟨C, cc, rfl, -, hrc, -⟩ := own_form hown
        have hbcd : Below wa.heap.size wa wc.drew := Below.drew hbc
        have hOc : Blk wc.drew go_ 37 _ := hO.kept hbcd
        have HOC := Lib.hid hOc
        have oc0 := (hO.kept hbc).cell 0
        have oc1 := hOc.cell 1
        have oc2 := hOc.cell 2
        have hRPc : RP wc.drew C ps := (cp_vals hcS hcB).rp hrc
        have hownd : wc.drew.ownsRow wa.heap.size 42 1 (.slice C ps.length cc) ps.length cs := hown
        have hcBd : CpB wc.drew cs ps 0 := hcB
        simp only [List.getElem?_cons_zero, List.getElem?_cons_succ] at oc0 oc1 oc2
        have HLN := Lib.hid (H1.out.kept hbc)
        clear hown hcB hrc o0 o1 o2
        go_upto_block 2 with (fail)
        go_cut [] (fun wx => Hid (LnOut w gl gu cu gp cp gm size wx))
        case first =>
          by_cases hk0 : kd = 0
          · subst hk0
            as_aux_lemma =>
              have hroom := H1.out.room
              obtain ⟨k1, hk1⟩ : ∃ k1, min ps.length (size - xs.length) = k1 := ⟨_, rfl⟩
              have HK1 := Lib.hid hk1
              have HKq : Hid (min ps.length (size - us.length) = k1) := by show _ = _; rw [H1.out.ou.len]; exact hk1
              have HKm : Hid (min ps.length (size - mu.length) = k1) := by show _ = _; rw [H1.out.om.len]; exact hk1
              have HQR : Hid (us.length ≤ size) := by show _ ≤ _; rw [H1.out.ou.len]; exact hroom.1
              have HMR : Hid (mu.length ≤ size) := by show _ ≤ _; rw [H1.out.om.len]; exact hroom.1
              have hids := H1.out.ids
              have hwas := H1.out.bel.size
              have hl1 : La wc.drew gl gu cu gp cp size us vs := H1.out.l.kept hbcd
              clear hk1
              go_wp2_with fail
              go_region_held3 (fun w' => w'.cell? ⟨go_, 1, none⟩ = some (.slice B' ps.length cb))
                (first | with_reducible exact oc1 | with_reducible exact cW2 | with_reducible exact cW3 | with_reducible exact cW4)
                (first
                  | (go_at_call 28; (with_reducible refine (urgent_k gl gu cu gp cp size ps.length k1 us vs ps C cc _ hl1 HQR.out hs4 hRPc rfl (by omega) HLS.out HKq.out).mono ?_); rintro e w2 ⟨rfl, news, hq2, ho2, hg2⟩; obtain ⟨hm2, hbw2, hch2, hsw2⟩ := ln_w2U H1.out hbcd hg2; have cW2 := cell_cho oc1 hch2)
                  | (go_at_call 14; (with_reducible refine (rput_kU w w.heap.size gm size ps.length k1 rp ru mu ps B' cb _ hm2.toU hsw2 HMR.out hs4 HB0.out hbw2 hids.2 (Nat.le_refl _) rfl (by omega) HLS.out HKm.out).mono ?_); rintro e w3 ⟨rfl, hr3⟩; obtain ⟨hrc3, hcB3, hbw3, hBK⟩ := ln_w3U H1.out hbcd hg2 hr3 hownd hcBd; have cW3 := (hBK go_ 37 _ (by decide) (by decide) hOc).cell 1; simp only [List.getElem?_cons_zero, List.getElem?_cons_succ] at cW3)
                  | (go_at_call 15; (with_reducible refine (kept_n w wa.heap.size wc.heap.size ps.length ps cs B' C cb cc _ HB0.out hbw3 (by omega) hrc3 hcS hcB3 rfl (by omega) HLS.out).mono ?_); rintro e w4 ⟨rfl, hc4⟩; have cW4 : w4.cell? ⟨go_, 1, none⟩ = some (.slice B' ps.length cb) := hc4.cell cW3 (by have := hO.lt; simp only; omega)))
              all_goals
                have hfin := ln_putU H1.out HK1.out hbcd hq2 ho2 hg2 hr3 hc4
                have G : Hid (LnOut w gl gu cu gp cp gm size w4) := ⟨_, _, HXU.out k1, hfin⟩
                clear hfin hq2 ho2 hg2 hr3 hc4 hm2 hbw2 hrc3 hcB3 hbw3 hBK
                go_wp2_with fail
                go_meet
                exact G
          by_cases hk1 : kd = 1
          · subst hk1
            as_aux_lemma =>
              have hroom := H1.out.room
              obtain ⟨k1, hk1⟩ : ∃ k1, min ps.length (size - ys.length) = k1 := ⟨_, rfl⟩
              have HK1 := Lib.hid hk1
              have HKq : Hid (min ps.length (size - vs.length) = k1) := by show _ = _; rw [H1.out.ov.len]; exact hk1
              have HKm : Hid (min ps.length (size - mp.length) = k1) := by show _ = _; rw [H1.out.op.len]; exact hk1
              have HQR : Hid (vs.length ≤ size) := by show _ ≤ _; rw [H1.out.ov.len]; exact hroom.2
              have HMR : Hid (mp.length ≤ size) := by show _ ≤ _; rw [H1.out.op.len]; exact hroom.2
              have hids := H1.out.ids
              have hwas := H1.out.bel.size
              have hl1 : La wc.drew gl gu cu gp cp size us vs := H1.out.l.kept hbcd
              clear hk1
              go_wp2_with fail
              go_region_held3 (fun w' => w'.cell? ⟨go_, 1, none⟩ = some (.slice B' ps.length cb))
                (first | with_reducible exact oc1 | with_reducible exact cW2 | with_reducible exact cW3 | with_reducible exact cW4)
                (first
                  | (go_at_call 27; (with_reducible refine (plain_k gl gu cu gp cp size ps.length k1 us vs ps C cc _ hl1 HQR.out hs4 hRPc rfl (by omega) HLS.out HKq.out).mono ?_); rintro e w2 ⟨rfl, news, hq2, ho2, hg2⟩; obtain ⟨hm2, hbw2, hch2, hsw2⟩ := ln_w2P H1.out hbcd hg2; have cW2 := cell_cho oc1 hch2)
                  | (go_at_call 14; (with_reducible refine (rput_kP w w.heap.size gm size ps.length k1 ru rp mp ps B' cb _ hm2.toP hsw2 HMR.out hs4 HB0.out hbw2 hids.2 (Nat.le_refl _) rfl (by omega) HLS.out HKm.out).mono ?_); rintro e w3 ⟨rfl, hr3⟩; obtain ⟨hrc3, hcB3, hbw3, hBK⟩ := ln_w3P H1.out hbcd hg2 hr3 hownd hcBd; have cW3 := (hBK go_ 37 _ (by decide) (by decide) hOc).cell 1; simp only [List.getElem?_cons_zero, List.getElem?_cons_succ] at cW3)
                  | (go_at_call 15; (with_reducible refine (kept_n w wa.heap.size wc.heap.size ps.length ps cs B' C cb cc _ HB0.out hbw3 (by omega) hrc3 hcS hcB3 rfl (by omega) HLS.out).mono ?_); rintro e w4 ⟨rfl, hc4⟩; have cW4 : w4.cell? ⟨go_, 1, none⟩ = some (.slice B' ps.length cb) := hc4.cell cW3 (by have := hO.lt; simp only; omega)))
              all_goals
                have hfin := ln_putP H1.out HK1.out hbcd hq2 ho2 hg2 hr3 hc4
                have G : Hid (LnOut w gl gu cu gp cp gm size w4) := ⟨_, _, HXP.out k1, hfin⟩
                clear hfin hq2 ho2 hg2 hr3 hc4 hm2 hbw2 hrc3 hcB3 hbw3 hBK
                go_wp2_with fail
                go_meet
                exact G
          by_cases hk2 : kd = 2
          · subst hk2
            as_aux_lemma =>
              cases xs with
              | nil =>
                cases ys with
                | nil =>
                  obtain rfl : us = [] := List.eq_nil_of_length_eq_zero HLN.out.ou.len
                  obtain rfl : mu = [] := List.eq_nil_of_length_eq_zero HLN.out.om.len
                  obtain rfl : vs = [] := List.eq_nil_of_length_eq_zero HLN.out.ov.len
                  obtain rfl : mp = [] := List.eq_nil_of_length_eq_zero HLN.out.op.len
                  go_wp2_with fail
                  (with_reducible refine (lget_none gl gu cu gp cp size wc HLN.out.l).mono ?_)
                  rintro e w2 ⟨rfl, rfl⟩
                  go_wp2_with fail
                  (with_reducible refine (rlget_none w.heap.size gm (size : Int) ru rp w2 HLN.out.m).mono ?_)
                  rintro e w3 ⟨rfl, rfl⟩
                  have hR0 : RB w3 none [] := fun j u hu => by simp at hu
                  have s1 := run_str (P := Try.prog) _ _ _ _ Try.underlying42 Try.underlying5 Try.underlying9 none 0 0 [] hR0 rfl
                  have hcm : ((bs []).toList != (bs []).toList) = false := by simp
                  generalize bs [] = q0 at *
                  have G : Hid (LnOut w gl gu cu gp cp gm size w3) := ⟨[], [], fun x hx => (by cases hx), _, _, _, _, _, _, HLN.out⟩
                  go_wp2_with fail
                  go_meet
                  exact G
                | cons x ys =>
                  obtain rfl : us = [] := List.eq_nil_of_length_eq_zero HLN.out.ou.len
                  obtain rfl : mu = [] := List.eq_nil_of_length_eq_zero HLN.out.om.len
                  obtain ⟨v, vs, rfl⟩ : ∃ v r, vs = v :: r := by
                    have := HLN.out.ov.len
                    cases vs with
                    | nil => simp at this
                    | cons v r => exact ⟨v, r, rfl⟩
                  obtain ⟨u, mp, rfl⟩ : ∃ v r, mp = v :: r := by
                    have := HLN.out.op.len
                    cases mp with
                    | nil => simp at this
                    | cons v r => exact ⟨v, r, rfl⟩
                  have hxl := HX.out x (by simp)
                  have hovq := HLN.out.ov.own 0 v x rfl rfl
                  have hovm := HLN.out.op.own 0 u x rfl rfl
                  obtain ⟨A1, c1, rfl, hc1, -, -⟩ := own_form hovq
                  obtain ⟨A2, c2, rfl, hc2, -, -⟩ := own_form hovm
                  have HOV := Lib.hid hovq
                  have HOM := Lib.hid hovm
                  have HSU := Lib.hid HLN.out.om.sl
                  have HSV := Lib.hid HLN.out.op.sl
                  have HLU := Lib.hid (show _ ≤ 5000 from by have h1 := HLN.out.om.len; have h2 := HLN.out.room; exact Nat.le_trans (Nat.le_of_eq h1) (by omega))
                  have HLV := Lib.hid (show _ ≤ 5000 from by have h1 := HLN.out.op.len; have h2 := HLN.out.room; exact Nat.le_trans (Nat.le_of_eq h1) (by omega))
                  clear hovq hovm
                  go_wp2_with fail
                  (with_reducible refine (lget_p gl gu cu gp cp size _ vs wc HLN.out.l).mono ?_)
                  rintro e w2 ⟨rfl, hl2, hg2⟩
                  have hch2 := ChO.chan HLN.out.l.p.2 hg2
                  have hm2 := rl_cho HLN.out.m hch2
                  have hb2 : Below w.heap.size w w2 := HLN.out.bel.grown hg2 HLN.out.bel.size (fun q hq => by injection hq with hq; have := HLN.out.ids; unfold LaB at this; omega)
                  have hs2 := hb2.size
                  go_wp2_with fail
                  (with_reducible refine (rlget_some w.heap.size gm (size : Int) ru rp _ [] _ w2 hm2 hs2 (.inr ⟨rfl, mp, rfl⟩) HSU.out HSV.out HLU.out HLV.out).mono ?_)
                  rintro e w3 ⟨b, us2, vs2, ru2, rp2, rfl, hm3, hpop, hg3, hn1, hn2⟩
                  obtain ⟨rfl, rfl, rfl⟩ : b = false ∧ us2 = [] ∧ vs2 = mp := by
                    rcases hpop with ⟨h1, h2, h3⟩ | ⟨h1, h2, h3, h4⟩
                    · cases h2
                    · injection h4 with _ h4; exact ⟨h1, h3, h4.symm⟩
                  have hrow : ∀ (A : Option Addr) (c n : Nat) (cs : List Value), wc.ownsRow w.heap.size 5 1 (.slice A n c) n cs → w3.ownsRow w.heap.size 5 1 (.slice A n c) n cs := fun A c n cs ho => by
                    have ho2 := own_cho ho hch2
                    refine ho2.kept hg3 ?_
                    cases hb : (Value.slice A n c).ownBlock with
                    | none => exact .inl rfl
                    | some b => exact .inr (fun e => by injection e with e; exact own_blk_ne ho2 hm2.blk (by decide) b hb e)
                  have hB1 : RB w3 A1 x := RC.of_own (hrow A1 c1 x.length (x.map bv) HOV.out)
                  have hB2 : RB w3 A2 x := RC.of_own (hrow A2 c2 x.length (x.map bv) HOM.out)
                  have s1 := run_str (P := Try.prog) _ _ _ _ Try.underlying42 Try.underlying5 Try.underlying9 A1 x.length c1 x hB1 rfl
                  have s2 := run_str (P := Try.prog) _ _ _ _ Try.underlying42 Try.underlying5 Try.underlying9 A2 x.length c2 x hB2 rfl
                  have hcm : ((bs x).toList != (bs x).toList) = false := by simp
                  generalize bs x = q0 at *
                  have G : Hid (LnOut w gl gu cu gp cp gm size w3) := ⟨[], ys, fun y hy => HX.out y (by simp only [List.nil_append, List.mem_cons] at hy ⊢; exact .inr hy), ln_step HLN.out hl2 hch2 hb2 hm3 hg3 (HLN.out.ou) (by have h := HLN.out.ov.drop 1; simpa using h) (HLN.out.om) (by have h := HLN.out.op.drop 1; simpa using h) ⟨Nat.le_refl _, by simp⟩ 0⟩
                  clear hrow hB1 hB2 hg2 hm2 hm3 hg3 hl2 hn1 hn2 hpop
                  go_wp2_with fail
                  go_meet
                  exact G
              | cons x xs =>
                obtain ⟨v, us, rfl⟩ : ∃ v r, us = v :: r := by
                  have := HLN.out.ou.len
                  cases us with
                  | nil => simp at this
                  | cons v r => exact ⟨v, r, rfl⟩
                obtain ⟨u, mu, rfl⟩ : ∃ v r, mu = v :: r := by
                  have := HLN.out.om.len
                  cases mu with
                  | nil => simp at this
                  | cons v r => exact ⟨v, r, rfl⟩
                have hxl := HX.out x (by simp)
                have hovq := HLN.out.ou.own 0 v x rfl rfl
                have hovm := HLN.out.om.own 0 u x rfl rfl
                obtain ⟨A1, c1, rfl, hc1, -, -⟩ := own_form hovq
                obtain ⟨A2, c2, rfl, hc2, -, -⟩ := own_form hovm
                have HOV := Lib.hid hovq
                have HOM := Lib.hid hovm
                have HSU := Lib.hid HLN.out.om.sl
                have HSV := Lib.hid HLN.out.op.sl
                have HLU := Lib.hid (show _ ≤ 5000 from by have h1 := HLN.out.om.len; have h2 := HLN.out.room; exact Nat.le_trans (Nat.le_of_eq h1) (by omega))
                have HLV := Lib.hid (show _ ≤ 5000 from by have h1 := HLN.out.op.len; have h2 := HLN.out.room; exact Nat.le_trans (Nat.le_of_eq h1) (by omega))
                clear hovq hovm
                go_wp2_with fail
                (with_reducible refine (lget_u gl gu cu gp cp size _ us vs wc HLN.out.l).mono ?_)
                rintro e w2 ⟨rfl, hl2, hg2⟩
                have hch2 := ChO.chan HLN.out.l.u.2 hg2
                have hm2 := rl_cho HLN.out.m hch2
                have hb2 : Below w.heap.size w w2 := HLN.out.bel.grown hg2 HLN.out.bel.size (fun q hq => by injection hq with hq; have := HLN.out.ids; unfold LaB at this; omega)
                have hs2 := hb2.size
                go_wp2_with fail
                (with_reducible refine (rlget_some w.heap.size gm (size : Int) ru rp _ _ mp w2 hm2 hs2 (.inl ⟨mu, rfl⟩) HSU.out HSV.out HLU.out HLV.out).mono ?_)
                rintro e w3 ⟨b, us2, vs2, ru2, rp2, rfl, hm3, hpop, hg3, hn1, hn2⟩
                obtain ⟨rfl, rfl, rfl⟩ : b = true ∧ us2 = mu ∧ vs2 = mp := by
                  rcases hpop with ⟨h1, h2, h3⟩ | ⟨h1, h2, h3, h4⟩
                  · injection h2 with _ h2; exact ⟨h1, h2.symm, h3⟩
                  · cases h2
                have hrow : ∀ (A : Option Addr) (c n : Nat) (cs : List Value), wc.ownsRow w.heap.size 5 1 (.slice A n c) n cs → w3.ownsRow w.heap.size 5 1 (.slice A n c) n cs := fun A c n cs ho => by
                  have ho2 := own_cho ho hch2
                  refine ho2.kept hg3 ?_
                  cases hb : (Value.slice A n c).ownBlock with
                  | none => exact .inl rfl
                  | some b => exact .inr (fun e => by injection e with e; exact own_blk_ne ho2 hm2.blk (by decide) b hb e)
                have hB1 : RB w3 A1 x := RC.of_own (hrow A1 c1 x.length (x.map bv) HOV.out)
                have hB2 : RB w3 A2 x := RC.of_own (hrow A2 c2 x.length (x.map bv) HOM.out)
                have s1 := run_str (P := Try.prog) _ _ _ _ Try.underlying42 Try.underlying5 Try.underlying9 A1 x.length c1 x hB1 rfl
                have s2 := run_str (P := Try.prog) _ _ _ _ Try.underlying42 Try.underlying5 Try.underlying9 A2 x.length c2 x hB2 rfl
                have hcm : ((bs x).toList != (bs x).toList) = false := by simp
                generalize bs x = q0 at *
                have G : Hid (LnOut w gl gu cu gp cp gm size w3) := ⟨xs, ys, fun y hy => HX.out y (by simp only [List.cons_append, List.mem_cons]; exact .inr hy), ln_step HLN.out hl2 hch2 hb2 hm3 hg3 (by have h := HLN.out.ou.drop 1; simpa using h) (HLN.out.ov) (by have h := HLN.out.om.drop 1; simpa using h) (HLN.out.op) ⟨by simp, Nat.le_refl _⟩ 0⟩
                clear hrow hB1 hB2 hg2 hm2 hm3 hg3 hl2 hn1 hn2 hpop
                go_wp2_with fail
                go_meet
                exact G
          have hk0' : (kd == 0) = false := by simp; omega
          have hk1' : (kd == 1) = false := by simp; omega
          have hk2' : (kd == 2) = false := by simp; omega
          clear hk0 hk1 hk2 oc0
          as_aux_lemma =>
            have HLD := Lib.hid (H1.out.kept hbcd)
            have hroom := HLD.out.room
            have lu := HLD.out.ou.len
            have lv := HLD.out.ov.len
            have lm := HLD.out.om.len
            have lp := HLD.out.op.len
            obtain ⟨k1, hk1⟩ : ∃ k1, min nn.toNat (us ++ vs).length = k1 := ⟨_, rfl⟩
            have HKq := Lib.hid hk1
            have HKm : Hid (min nn.toNat (mu ++ mp).length = k1) := by show _ = _; rw [← hk1, List.length_append, List.length_append, lu, lv, lm, lp]
            have HLK : Hid (((xs ++ ys).take k1).length = k1) := by show _ = _; rw [List.length_take, ← hk1, List.length_append, List.length_append, lu, lv]; omega
            have HSL : Hid (∀ v ∈ us ++ vs, IsSl v) := fun v hv => (List.mem_append.1 hv).elim (HLD.out.ou.sl v) (HLD.out.ov.sl v)
            have HSU := Lib.hid HLD.out.om.sl
            have HSV := Lib.hid HLD.out.op.sl
            have HLU : Hid (mu.length ≤ 5000) := by show _ ≤ _; omega
            have HLV : Hid (mp.length ≤ 5000) := by show _ ≤ _; omega
            have HLA : Hid ((us ++ vs).length ≤ 1000000) := by show _ ≤ _; rw [List.length_append]; omega
            have HKS : Hid (k1 ≤ 4000000) := by show _ ≤ _; have := HLA.out; omega
            have HMU : Hid (mu.length = us.length) := by show _ = _; rw [lu, lm]
            have hl1 := HLD.out.l
            have hids := HLD.out.ids.1
            have hwb := HLD.out.bel.size
            clear hk1 lu lv lm lp hroom
            go_wp2_with fail
            go_region_held3 (fun w' => w'.cell? ⟨go_, 2, none⟩ = some (.int .i64 nn))
              (first | with_reducible exact oc2 | with_reducible exact cW2 | with_reducible exact cW3 | with_reducible exact cW4)
              (first
                | (go_at_call 29; (with_reducible refine (take2_k w.heap.size gl gu cu gp cp size k1 us vs nn _ hl1 hids hwb HSL.out HLA.out HKq.out).mono ?_); rintro e w2 ⟨v2, rfl, ht2⟩; obtain ⟨hown2, hl2, hch2, hbel2⟩ := ht2; obtain ⟨A1, c1, rfl, -, -, -⟩ := own_form hown2; have hb2 := HLD.out.bel.trans hbel2; have hm2 := rl_cho HLD.out.m hch2; have hs2 := hb2.size; have cW2 := cell_cho oc2 hch2)
                | (go_at_call 33; (with_reducible refine (rtake_k w.heap.size gm k1 (size : Int) ru rp mu mp nn w2 hm2 hs2 HSU.out HSV.out HLU.out HLV.out HKm.out).mono ?_); rintro e w3 ⟨v3, rfl, hown3, ⟨ru2, rp2, hm3, -, -, -⟩, hg3⟩; obtain ⟨A2, c2, rfl, -, -, -⟩ := own_form hown3; have cW3 := ln_cell2 HOC.out hch2 hm2.blk hg3; have hP1 := (((ln_owl3 (HLD.out.ou.append HLD.out.ov) hch2 hm2.blk hg3).take k1).vals).rp (RC.of_own (own_gm hown2 hm2.blk (by decide) hg3)); have hP2 := (((ln_owl3 (HLD.out.om.append HLD.out.op) hch2 hm2.blk hg3).take k1).vals).rp (RC.of_own hown3))
                | (go_at_call 19; (with_reducible refine (rows_n k1 k1 ((xs ++ ys).take k1) ((xs ++ ys).take k1) A1 A2 c1 c2 _ HLK.out HLK.out hP1 hP2 HKS.out).mono ?_); rintro e w4 ⟨rfl, q, rfl⟩; simp only [decide_true]; have cW4 : (w3.drewN q).cell? ⟨go_, 2, none⟩ = some (.int .i64 nn) := cW3))
            all_goals
              have hfin := ln_step HLD.out hl2 hch2 hb2 hm3 hg3 (HLD.out.ou.drop k1) (HLD.out.ov.drop (k1 - us.length)) (HLD.out.om.drop k1) (by have h := HLD.out.op.drop (k1 - us.length); rw [HMU.out]; exact h) ⟨by simp, by simp⟩ q
              have G : Hid (LnOut w gl gu cu gp cp gm size (w3.drewN q)) := ⟨_, _, fun x hx => HX.out x (by
                rcases List.mem_append.1 hx with hx | hx
                · exact List.mem_append_left _ (List.mem_of_mem_drop hx)
                · exact List.mem_append_right _ (List.mem_of_mem_drop hx)), hfin⟩
              clear hfin hown2 hl2 hch2 hbel2 hb2 hm2 hown3 hm3 hg3 hP1 hP2 cW2 cW3 cW4
              go_wp2_with fail
              go_meet
              exact G
        case rest =>
          obtain ⟨xs2, ys2, hx2, us2, vs2, mu2, mp2, ru2, rp2, h2⟩ := hcut.out
          have HX2 := Lib.hid hx2
          have H2 := Lib.hid h2
          obtain ⟨M, mc, rfl, -, -, -⟩ := own_form h2.m.u
          obtain ⟨N, nc, rfl, -, -, -⟩ := own_form h2.m.p
          have hroom := h2.room
          have d0 := h2.m.blk.cell 0
          have d2 := h2.m.blk.cell 2
          simp only [List.getElem?_cons_zero, List.getElem?_cons_succ] at d0 d2
          rw [h2.om.len] at d0
          rw [h2.op.len] at d2
          have hq2 : ∀ k, La (wc.drewN k) gl gu cu gp cp size us2 vs2 := fun k => h2.l.kept (below_dn wc k)
          have hw1 : IntKind.i64.wrap ((xs2.length : Int) + (ys2.length : Int)) = ((xs2.length + ys2.length : Nat) : Int) := by rw [IntWalk.i64_in _ (by omega)]; omega
          have hle : Hid (((us2.length + vs2.length : Nat) : Int) = ((xs2.length + ys2.length : Nat) : Int)) := by show _ = _; rw [h2.ou.len, h2.ov.len]
          have hq2l : us2.length + vs2.length ≤ 4000000 := by rw [h2.ou.len, h2.ov.len]; omega
          clear hx2 h2 hcut
          go_wp2_with fail
          go_quiet ((go_at_call 31; with_reducible exact Calls.quiet_of (llen_i gl gu cu gp cp size us2 vs2 ((xs2.length + ys2.length : Nat) : Int) _ (hq2 _) hq2l hle.out)))
          go_wp2_with fail
          go_roundw
          case rel => exact ⟨k + 1, xs2, ys2, by omega, by go_num, HX2.out, ⟨_, _, _, _, _, _, H2.out.kept (below_dn wc nq)⟩⟩
          case measure => simp [intOf]; omega
      · go_wp2_with fail
        go_ret
        obtain ⟨us, vs, mu, mp, ru, rp, h⟩ := HS.out
        exact ⟨rfl, h.bel⟩
theorem QueueLanesX_walk (x0 : Int) (x1 : List QOp) (A1 : Option Addr) (c1 : Nat) (w : World) (u0 : (Lit.int .i64 x0).wf = true) (y1 : OpsAt w A1 x1) (z1 : OpsLe x1) (n1 : x1.length ≤ 1048576) :
    Calls Try.prog 7 #[.int .i64 x0, .slice A1 x1.length c1] w fun e w' => e = .returned (.bool true) ∧ Below w.heap.size w w' :=
  QueueLanes_walk x0 x1 A1 c1 w y1 z1 n1
end Go.Proofs.Ytkgkbmiacomhdaa
