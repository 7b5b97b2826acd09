/- Layer 8: the walk of the reference's Of. -/
import Derived.Test.YtcmgdieeclninaaD20
set_option linter.unusedVariables false
set_option linter.unusedSimpArgs false
namespace Go.Proofs.Ytcmgdieeclninaa
open Go.RowKit Go.Proofs.YtcmgdieeclninaaW.PrintWords
/-- Lengths in reach. -/
def SzTab (t : Tab) : Prop := t.cols.length * 32 ≤ 140737488351232 ∧ t.key.length * 8 ≤ 140737488351232 ∧ t.idx.length * 48 ≤ 140737488351232 ∧ ∀ x ∈ t.idx, x.columns.length * 8 ≤ 140737488351232
def SzPrc (p : Prc) : Prop := p.params.length * 24 ≤ 140737488351232 ∧ p.body.length * 16 ≤ 140737488351232
def SzCat (c : Cat) : Prop := c.tables.length * 96 ≤ 140737488351232 ∧ c.procs.length * 80 ≤ 140737488351232 ∧ (∀ t ∈ c.tables, SzTab t) ∧ ∀ p ∈ c.procs, SzPrc p
def zCat : Obj := .cells #[.slice none 0 0, .slice none 0 0] 25 (0, 0)
theorem info30 : (Try.prog.info? 30).map (fun i => (i.zero, i.size, i.bytes)) = some (some (.agg #[.string ByteArray.empty, .slice none 0 0, .slice none 0 0, .int .i64 0, .slice none 0 0]), 5, 96) := by kernel_rfl
theorem info34 : (Try.prog.info? 34).map (fun i => (i.zero, i.size, i.bytes)) = some (some (.agg #[.string ByteArray.empty, .slice none 0 0, .slice none 0 0, .int .i64 0, .int .i64 0]), 5, 80) := by kernel_rfl
theorem St3.alloc {w u : World} {o1 o2 o3 : Obj} (h : St3 w u o1 o2 o3) (o : Obj) : St3 w (u.alloc o) o1 o2 o3 := h.below (below_alloc (Below.refl _ _) o)
theorem R_alloc' {α : Type} {d : Kd α} {e : Nat} {u : World} {base : Nat} {ok : Nat → Prop} {v : Value} {xs : List α} (h : d.R e u base ok v xs) (o : Obj) : d.R e (u.alloc o) base ok v xs := Kd.R_below h (below_alloc (Below.refl _ _) o)
set_option maxRecDepth 100000 in
set_option maxHeartbeats 4000000 in
theorem ofRef_any (c : Cat) (A1 : Option Addr) (c1 : Nat) (A2 : Option Addr) (c2 : Nat) (w : World)
    (hC1 : kTab.C w A1 c.tables.length c.tables) (hC2 : kPrc.C w A2 c.procs.length c.procs) (hz : SzCat c) :
    Calls Try.prog 11 #[.agg #[.slice A1 c.tables.length c1, .slice A2 c.procs.length c2]] w fun e w' => ∃ v1 v2, e = .returned (.agg #[v1, v2]) ∧
      (kTab.R 30 w' w.heap.size (fun _ => True) v1 c.tables ∧ kPrc.R 34 w' w.heap.size (fun _ => True) v2 c.procs) ∧ Below w.heap.size w w' := by
  have HC1 := Aside0.mk hC1
  have HC2 := Aside0.mk hC2
  have HZ := Lib.hid hz
  have hz1 := hz.1
  have hz2 := hz.2.1
  clear hC1 hC2 hz
  have hst := St3.start w (catBox c.tables.length c.procs.length A1 c1 A2 c2) zCat zCat
  have hw0 : ((w.alloc (Obj.cells #[.slice A1 c.tables.length c1, .slice A2 c.procs.length c2] 25)).alloc (Obj.cells #[.slice none 0 0, .slice none 0 0] 25)).alloc (Obj.cells #[.slice none 0 0, .slice none 0 0] 25) = ((w.alloc (catBox c.tables.length c.procs.length A1 c1 A2 c2)).alloc zCat).alloc zCat := rfl
  obtain ⟨W, hW⟩ : ∃ W, W = ((w.alloc (catBox c.tables.length c.procs.length A1 c1 A2 c2)).alloc zCat).alloc zCat := ⟨_, rfl⟩
  rw [← hW] at hst hw0
  have HW0 := Aside0.mk hw0
  have S0 := Aside0.mk hst
  have hWs : W.heap.size = w.heap.size + 3 := by rw [hW]; simp
  have HWS := Lib.hid hWs
  clear hW hw0 hst hWs
  go_enter Try.func11, Try.ntmps11
  go_wp2_with fail
  rw [HW0.out]
  go_loopg [4] c.tables.length (fun gn i wr => ∃ (k : Nat) (v : Value), i = .int .i64 k ∧ Aside0 (k + gn = c.tables.length) ∧ Aside0 (St3 w wr (catBox c.tables.length c.procs.length A1 c1 A2 c2) zCat (.cells #[v, .slice none 0 0] 25 (0, 0))) ∧ Aside0 (kTab.R 30 wr W.heap.size (fun k => W.heap.size ≤ k) v (c.tables.take k)))
  case atStart => exact ⟨0, .slice none 0 0, rfl, ⟨by omega⟩, S0, ⟨Kd.R_nil _ _ _ _ _⟩⟩
  case round =>
    obtain ⟨k, v, rfl, ⟨hgn⟩, hS, hR⟩ := hrel
    have HGN := Lib.hid hgn
    clear hgn
    obtain ⟨L, hL⟩ : ∃ L, L = c.tables.take k := ⟨_, rfl⟩
    rw [← hL] at hR
    have HL := Lib.hid hL
    clear hL
    have f1 : wr.cell? ⟨w.heap.size, 0, none⟩ = some (.slice A1 c.tables.length c1) := blk_cell hS.out.b1 0
    by_cases hk : k < c.tables.length
    · obtain ⟨ad, x, X1, d1, X2, d2, X3, d3, rfl, hx, hmem0, hts0, q0, q1, q2, q3, q4, hc1, hc2, hc3⟩ := tab_at HC1.out hS.out.bel k hk
      have hzx := HZ.out.2.2.1 x hmem0
      have HTS := Lib.hid hts0
      have HX1 := Aside0.mk (Kd.C_below hc1.2 hS.out.bel)
      have HX2 := Aside0.mk (Kd.C_below hc2.2 hS.out.bel)
      have HX3 := Aside0.mk (Kd.C_below hc3.2 hS.out.bel)
      have HZX := Lib.hid hzx
      clear hx hmem0 hts0 hc1 hc2 hc3 hzx
      have p0 : (0 : Int) ≤ k := by omega
      have p1 : (k : Int) < c.tables.length := by omega
      go_wp2_with fail
      refine (tabOfRef_any x X1 d1 X2 d2 X3 d3 wr HX1.out HX2.out HX3.out (by have := HZX.out.1; omega) (by have := HZX.out.2.1; omega) (by have := HZX.out.2.2.1; omega) (fun y hy => by have := HZX.out.2.2.2 y hy; omega)).mono ?_
      rintro e w5 ⟨v1, v2, v3, rfl, ⟨hr1, hr2, hr3⟩, hb5⟩
      obtain ⟨Y1, y1, hv1⟩ := Kd.R_slice hr1
      obtain ⟨Y2, y2, hv2⟩ := Kd.R_slice hr2
      obtain ⟨Y3, y3, hv3⟩ := Kd.R_slice hr3
      subst hv1 hv2 hv3
      have HM : Aside0 (kTab.M w5 wr.heap.size (fun _ => True) x [.string x.name, .slice Y1 x.cols.length y1, .slice Y2 x.key.length y2, .int .i64 x.part, .slice Y3 x.idx.length y3]) := ⟨kTab_M.2 ⟨_, _, _, rfl, hr1, hr2, hr3⟩⟩
      have S5 := Aside0.mk (hS.out.below hb5)
      have HR5 := Aside0.mk (Kd.R_below (Kd.R_bound hR.out) hb5)
      have HSZ := Lib.hid hb5.size
      obtain ⟨V, vc, hvs⟩ := Kd.R_slice hR.out
      have HRB := Lib.hid hR.out
      subst hvs
      clear hr1 hr2 hr3 hb5
      obtain ⟨bx, hbx⟩ : ∃ bx, bx = w5.heap.size := ⟨_, rfl⟩
      have S6 := Aside0.mk (S5.out.alloc (Obj.cells #[.string x.name, .slice Y1 x.cols.length y1, .slice Y2 x.key.length y2, .int .i64 x.part, .slice Y3 x.idx.length y3] 30))
      have g5 : (w5.alloc (Obj.cells #[.string x.name, .slice Y1 x.cols.length y1, .slice Y2 x.key.length y2, .int .i64 x.part, .slice Y3 x.idx.length y3] 30)).cell? ⟨w.heap.size + 1 + 1, 0, none⟩ = some (.slice V L.length vc) := blk_cell S6.out.b3 0
      obtain ⟨w6, hw6⟩ : ∃ u, u = w5.alloc (Obj.cells #[.string x.name, .slice Y1 x.cols.length y1, .slice Y2 x.key.length y2, .int .i64 x.part, .slice Y3 x.idx.length y3] 30) := ⟨_, rfl⟩
      have HW6 := Lib.hid hw6.symm
      have HS6 := Lib.hid (show w5.heap.size + 1 = w6.heap.size from by rw [hw6]; simp)
      rw [← hw6] at S6
      have hR6 := R_alloc' HR5.out (Obj.cells #[.string x.name, .slice Y1 x.cols.length y1, .slice Y2 x.key.length y2, .int .i64 x.part, .slice Y3 x.idx.length y3] 30)
      have hM6 := kTab.M_mono (ok' := fun k => wr.heap.size ≤ k ∧ k < w5.heap.size) (fun k hk => ⟨hk.2.1, hk.2.2.1⟩) (kTab.M_bound HM.out)
      have hM7 := Kd.M_below hM6 (below_alloc (Below.refl _ _) (Obj.cells #[.string x.name, .slice Y1 x.cols.length y1, .slice Y2 x.key.length y2, .int .i64 x.part, .slice Y3 x.idx.length y3] 30))
      rw [← hw6] at hR6 hM7
      have HR6 := Aside0.mk hR6
      have HM7 := Aside0.mk hM7
      clear hR6 hM6 hM7 hw6
      have HWR := Lib.hid (show W.heap.size ≤ wr.heap.size from by have := hS.out.sz; have := HWS.out; omega)
      have hlen : L.length ≤ c.tables.length := by rw [HL.out, List.length_take]; omega
      have HLEN := Lib.hid hlen
      clear hbx hlen
      go_wp2_with (at_builtin; (rw [HW6.out, HS6.out]); (go_loud (refine Kd.R_append kTab (w0 := w6) W.heap.size rfl (.tmp 22) (.tmp 24) 22 30 _ 96 rfl Try.underlying22 info30 rfl (by decide) (by omega) _ L x [.string x.name, .slice Y1 x.cols.length y1, .slice Y2 x.key.length y2, .int .i64 x.part, .slice Y3 x.idx.length y3] (fun k => W.heap.size ≤ k) (fun k => wr.heap.size ≤ k ∧ k < w5.heap.size) rfl rfl ?aP ?aK ?aF ?aO ?aB ?aS ?aL ?_)); (case aP => exact kTab.M_lower HWR.out HM7.out); (case aK => (intro i hi; exact ⟨Nat.le_trans HWR.out hi.1, fun he => by (have := Kd.R_lt HRB.out i he.symm; omega)⟩)); (case aF => (intro i hi; have := S6.out.sz; have := HWS.out; omega)); (case aO => exact Kd.R_mono HR6.out (fun i hi => hi.1)); (case aB => exact Below.refl _ _); (case aS => (have := S6.out.sz; have := HWS.out; omega)); (case aL => (have := HLEN.out; omega)); intro v7 w7 ho7 hb7 hg7 hat7; (obtain ⟨V7, vc7, hv7⟩ := Kd.R_slice ho7); (rw [List.length_append, List.length_singleton] at hv7); (have hO7 := Aside0.mk ho7); (have hm7 : Mod w6 w7 (fun i => W.heap.size ≤ i) := ⟨hb7.os, hb7.tape, hb7.output, hg7.size, fun i hi hn => hb7.block i (by omega)⟩); (have S7 := Aside0.mk (S6.out.mod hm7 (fun i hi => by have := HWS.out; omega))); subst hv7; clear ho7 hb7 hg7 hat7 hm7; (have y1 : w7.cell? ⟨w.heap.size + 1 + 1, 0, none⟩ = some (.slice V L.length vc) := blk_cell S7.out.b3 0); (have y2 : w7.frozen? ⟨w.heap.size + 1 + 1, 0, none⟩ = false := blk_frozen S7.out.b3 _))
      go_roundg (c.tables.length - (k + 1))
      case measure => have := HGN.out; omega
      case rel => exact ⟨k + 1, .slice V7 (L.length + 1) vc7, by go_num, ⟨by have := HGN.out; omega⟩, ⟨S7.out.set3 0 _ rfl⟩, ⟨by
        have h1 := HTS.out
        rw [h1, ← HL.out]
        exact R_set hO7.out _ _ _ (by have := HWS.out; omega)⟩⟩
    · obtain rfl : L = c.tables := by rw [HL.out]; exact List.take_of_length_le (by omega)
      clear HL
      go_wp2_with fail
      clear f1
      obtain ⟨vT, hvT⟩ : ∃ x, x = v := ⟨v, rfl⟩
      rw [← hvT] at hS hR
      have hTO := hR
      clear hvT hR
      go_loopg [6] c.procs.length (fun gn i wr => ∃ (k : Nat) (v : Value), i = .int .i64 k ∧ Aside0 (k + gn = c.procs.length) ∧ Aside0 (St3 w wr (catBox c.tables.length c.procs.length A1 c1 A2 c2) zCat (.cells #[vT, v] 25 (0, 0))) ∧ Aside0 (kPrc.R 34 wr W.heap.size (fun k => W.heap.size ≤ k) v (c.procs.take k)) ∧ Aside0 (kTab.R 30 wr W.heap.size (fun k => W.heap.size ≤ k) vT c.tables))
      case atStart => exact ⟨0, .slice none 0 0, rfl, ⟨by omega⟩, hS, ⟨Kd.R_nil _ _ _ _ _⟩, hTO⟩
      case round =>
        obtain ⟨k, v, rfl, ⟨hgn⟩, hS, hR, hT⟩ := hrel
        have HGN := Lib.hid hgn
        clear hgn
        obtain ⟨L, hL⟩ : ∃ L, L = c.procs.take k := ⟨_, rfl⟩
        rw [← hL] at hR
        have HL := Lib.hid hL
        clear hL
        have f1 : wr.cell? ⟨w.heap.size, 1, none⟩ = some (.slice A2 c.procs.length c2) := blk_cell hS.out.b1 1
        by_cases hk : k < c.procs.length
        · obtain ⟨ad, x, X1, d1, X2, d2, rfl, hx, hmem0, hts0, q0, q1, q2, q3, q4, hc1, hc2⟩ := prc_at HC2.out hS.out.bel k hk
          have hzx := HZ.out.2.2.2 x hmem0
          have HTS := Lib.hid hts0
          have HX1 := Aside0.mk (Kd.C_below hc1.2 hS.out.bel)
          have HX2 := Aside0.mk (Kd.C_below hc2.2 hS.out.bel)
          have HZX := Lib.hid hzx
          clear hx hmem0 hts0 hc1 hc2 hzx
          have p0 : (0 : Int) ≤ k := by omega
          have p1 : (k : Int) < c.procs.length := by omega
          go_wp2_with fail
          refine (prcOfRef_any x X1 d1 X2 d2 wr HX1.out HX2.out (by have := HZX.out.1; omega) (by have := HZX.out.2; omega)).mono ?_
          rintro e w5 ⟨v1, v2, rfl, ⟨hr1, hr2⟩, hb5⟩
          obtain ⟨Y1, y1, hv1⟩ := Kd.R_slice hr1
          obtain ⟨Y2, y2, hv2⟩ := Kd.R_slice hr2
          subst hv1 hv2
          have HM : Aside0 (kPrc.M w5 wr.heap.size (fun _ => True) x [.string x.name, .slice Y1 x.params.length y1, .slice Y2 x.body.length y2, .int .i64 x.rows, .int .i64 x.bytes]) := ⟨kPrc_M.2 ⟨_, _, rfl, hr1, hr2⟩⟩
          have S5 := Aside0.mk (hS.out.below hb5)
          have HR5 := Aside0.mk (Kd.R_below (Kd.R_bound hR.out) hb5)
          have HT5 := Aside0.mk (Kd.R_below hT.out hb5)
          have HSZ := Lib.hid hb5.size
          obtain ⟨V, vc, hvs⟩ := Kd.R_slice hR.out
          have HRB := Lib.hid hR.out
          subst hvs
          clear hr1 hr2 hb5 hT
          obtain ⟨bx, hbx⟩ : ∃ bx, bx = w5.heap.size := ⟨_, rfl⟩
          have S6 := Aside0.mk (S5.out.alloc (Obj.cells #[.string x.name, .slice Y1 x.params.length y1, .slice Y2 x.body.length y2, .int .i64 x.rows, .int .i64 x.bytes] 34))
          have g5 : (w5.alloc (Obj.cells #[.string x.name, .slice Y1 x.params.length y1, .slice Y2 x.body.length y2, .int .i64 x.rows, .int .i64 x.bytes] 34)).cell? ⟨w.heap.size + 1 + 1, 1, none⟩ = some (.slice V L.length vc) := blk_cell S6.out.b3 1
          obtain ⟨w6, hw6⟩ : ∃ u, u = w5.alloc (Obj.cells #[.string x.name, .slice Y1 x.params.length y1, .slice Y2 x.body.length y2, .int .i64 x.rows, .int .i64 x.bytes] 34) := ⟨_, rfl⟩
          have HW6 := Lib.hid hw6.symm
          have HS6 := Lib.hid (show w5.heap.size + 1 = w6.heap.size from by rw [hw6]; simp)
          rw [← hw6] at S6
          have hR6 := R_alloc' HR5.out (Obj.cells #[.string x.name, .slice Y1 x.params.length y1, .slice Y2 x.body.length y2, .int .i64 x.rows, .int .i64 x.bytes] 34)
          have hM6 := kPrc.M_mono (ok' := fun k => wr.heap.size ≤ k ∧ k < w5.heap.size) (fun k hk => ⟨hk.2.1, hk.2.2.1⟩) (kPrc.M_bound HM.out)
          have hM7 := Kd.M_below hM6 (below_alloc (Below.refl _ _) (Obj.cells #[.string x.name, .slice Y1 x.params.length y1, .slice Y2 x.body.length y2, .int .i64 x.rows, .int .i64 x.bytes] 34))
          have hT6 := R_alloc' HT5.out (Obj.cells #[.string x.name, .slice Y1 x.params.length y1, .slice Y2 x.body.length y2, .int .i64 x.rows, .int .i64 x.bytes] 34)
          rw [← hw6] at hR6 hM7 hT6
          have HT6 := Aside0.mk hT6
          have HR6 := Aside0.mk hR6
          have HM7 := Aside0.mk hM7
          clear hR6 hM6 hM7 hw6 hT6 HT5
          have HWR := Lib.hid (show W.heap.size ≤ wr.heap.size from by have := hS.out.sz; have := HWS.out; omega)
          have hlen : L.length ≤ c.procs.length := by rw [HL.out, List.length_take]; omega
          have HLEN := Lib.hid hlen
          clear hbx hlen
          go_wp2_with (at_builtin; (rw [HW6.out, HS6.out]); (go_loud (refine Kd.R_append kPrc (w0 := w6) W.heap.size rfl (.tmp 41) (.tmp 43) 23 34 _ 80 rfl Try.underlying23 info34 rfl (by decide) (by omega) _ L x [.string x.name, .slice Y1 x.params.length y1, .slice Y2 x.body.length y2, .int .i64 x.rows, .int .i64 x.bytes] (fun k => W.heap.size ≤ k) (fun k => wr.heap.size ≤ k ∧ k < w5.heap.size) rfl rfl ?aP ?aK ?aF ?aO ?aB ?aS ?aL ?_)); (case aP => exact kPrc.M_lower HWR.out HM7.out); (case aK => (intro i hi; exact ⟨Nat.le_trans HWR.out hi.1, fun he => by (have := Kd.R_lt HRB.out i he.symm; omega)⟩)); (case aF => (intro i hi; have := S6.out.sz; have := HWS.out; omega)); (case aO => exact Kd.R_mono HR6.out (fun i hi => hi.1)); (case aB => exact Below.refl _ _); (case aS => (have := S6.out.sz; have := HWS.out; omega)); (case aL => (have := HLEN.out; omega)); intro v7 w7 ho7 hb7 hg7 hat7; (obtain ⟨V7, vc7, hv7⟩ := Kd.R_slice ho7); (rw [List.length_append, List.length_singleton] at hv7); (have hT7 := Aside0.mk (Kd.R_over HT6.out HR6.out (by (intro q hq; (have hq2 : q = 30 ∨ q = 62 ∨ q = 3 ∨ q = 64 ∨ q = 3 := (by simpa [kTab, kCol, kIdx, Kd.iso, Kd.pair, Kd.slice, Kd.string, Kd.int, Kd.bool, Kd.scalar] using hq)); omega)) hg7)); (have hO7 := Aside0.mk ho7); (have hm7 : Mod w6 w7 (fun i => W.heap.size ≤ i) := ⟨hb7.os, hb7.tape, hb7.output, hg7.size, fun i hi hn => hb7.block i (by omega)⟩); (have S7 := Aside0.mk (S6.out.mod hm7 (fun i hi => by have := HWS.out; omega))); subst hv7; clear ho7 hb7 hg7 hat7 hm7; (have y1 : w7.cell? ⟨w.heap.size + 1 + 1, 1, none⟩ = some (.slice V L.length vc) := blk_cell S7.out.b3 1); (have y2 : w7.frozen? ⟨w.heap.size + 1 + 1, 1, none⟩ = false := blk_frozen S7.out.b3 _))
          go_roundg (c.procs.length - (k + 1))
          case measure => have := HGN.out; omega
          case rel => exact ⟨k + 1, .slice V7 (L.length + 1) vc7, by go_num, ⟨by have := HGN.out; omega⟩, ⟨S7.out.set3 1 _ rfl⟩, ⟨by
            have h1 := HTS.out
            rw [h1, ← HL.out]
            exact R_set hO7.out _ _ _ (by have := HWS.out; omega)⟩, ⟨R_set hT7.out _ _ _ (by have := HWS.out; omega)⟩⟩
        · obtain rfl : L = c.procs := by rw [HL.out]; exact List.take_of_length_le (by omega)
          clear HL
          obtain ⟨V, vc, hvs⟩ := Kd.R_slice hR.out
          obtain ⟨U, uc, hus⟩ := Kd.R_slice hT.out
          subst hvs hus
          have g0 : wr.cell? ⟨w.heap.size + 1 + 1, 0, none⟩ = some (.slice U c.tables.length uc) := blk_cell hS.out.b3 0
          have g1 : wr.cell? ⟨w.heap.size + 1 + 1, 1, none⟩ = some (.slice V c.procs.length vc) := blk_cell hS.out.b3 1
          have g2 : wr.cell? ⟨w.heap.size + 1, 0, none⟩ = some (.slice none 0 0) := blk_cell hS.out.b2 0
          have g3 : wr.cell? ⟨w.heap.size + 1, 1, none⟩ = some (.slice none 0 0) := blk_cell hS.out.b2 1
          have g4 : wr.frozen? ⟨w.heap.size + 1, 0, none⟩ = false := blk_frozen hS.out.b2 _
          have g5 : wr.frozen? ⟨w.heap.size + 1, 1, none⟩ = false := blk_frozen hS.out.b2 _
          go_wp2_with fail
          have hE := ((hS.out.set2 0 (.slice U c.tables.length uc) rfl).set2 1 (.slice V c.procs.length vc) rfl)
          have hm := (mod_setCell wr (w.heap.size + 1) 0 (.slice U c.tables.length uc)).trans (mod_setCell _ _ 1 (.slice V c.procs.length vc))
          refine bodyPost_ret (results_cell_row rfl _ _ (w.heap.size + 1) 25 #[.slice U c.tables.length uc, .slice V c.procs.length vc] (0, 0) _ rfl hE.b2 Try.underlying25 rfl (by kernel_rfl)) rfl ?_
          have hws := HWS.out
          exact ⟨_, _, rfl, ⟨Kd.R_mono (Kd.R_lower (Kd.R_step hT.out (fun i hi hl => hm.block i hl (by omega))) (by omega)) (fun _ _ => trivial), Kd.R_mono (Kd.R_lower (Kd.R_step hR.out (fun i hi hl => hm.block i hl (by omega))) (by omega)) (fun _ _ => trivial)⟩, hE.bel⟩
end Go.Proofs.Ytcmgdieeclninaa
