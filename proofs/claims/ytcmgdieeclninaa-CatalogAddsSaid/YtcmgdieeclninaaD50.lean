/- Layer 08: D50 the law Adds -/
import Derived.Test.YtcmgdieeclninaaD49
set_option linter.unusedVariables false
set_option linter.unusedSimpArgs false
namespace Go.Proofs.Ytcmgdieeclninaa
open Go.RowKit Go.Proofs.YtcmgdieeclninaaW.PrintWords
theorem CatOut.openR {r : Int × Cat} {w w' : World} {e : Ending} (h : CatOut r w e w') : ∃ A1 d1 A2 d2, e = .returned (.tuple #[.agg #[.slice A1 r.2.tables.length d1, .slice A2 r.2.procs.length d2], .int .i64 r.1]) ∧
    kTab.R 30 w' w.heap.size (fun k => w.heap.size ≤ k ∧ k < w'.heap.size) (.slice A1 r.2.tables.length d1) r.2.tables ∧ kPrc.R 34 w' w.heap.size (fun k => w.heap.size ≤ k ∧ k < w'.heap.size) (.slice A2 r.2.procs.length d2) r.2.procs ∧ Below w.heap.size w w' := by
  obtain ⟨v1, v2, rfl, ⟨h1, h2⟩, hb⟩ := h
  obtain ⟨A1, d1, rfl, _, g1⟩ := Kd.R_reads h1
  obtain ⟨A2, d2, rfl, _, g2⟩ := Kd.R_reads h2
  exact ⟨A1, d1, A2, d2, rfl, Kd.R_mono (Kd.R_bound h1) (fun k hk => ⟨hk.2.1, hk.2.2.1⟩), Kd.R_mono (Kd.R_bound h2) (fun k hk => ⟨hk.2.1, hk.2.2.1⟩), hb⟩
theorem below_kin {w0 w w' : World} {ok : Nat → Prop} (h : Below w0.heap.size w0 w) (k : Kin w w' ok) (hok : ∀ i, ok i → w0.heap.size ≤ i) : Below w0.heap.size w0 w' :=
  ⟨k.os.trans h.os, k.tape.trans h.tape, k.output.trans h.output, Nat.le_trans h.size k.size, fun i hi => (k.block i (Nat.lt_of_lt_of_le hi h.size) (fun ho => by have := hok i ho; omega)).trans (h.block i hi)⟩
theorem Kin.R {α : Type} {d : Kd α} {e : Nat} {w w' : World} {base : Nat} {ok ok' : Nat → Prop} {v : Value} {xs : List α} (h : d.R e w base ok v xs) (k : Kin w w' ok') (hn : ∀ i, ok i → ¬ ok' i) : d.R e w' base ok v xs :=
  Kd.R_step h (fun i hi hl => k.block i hl (hn i hi))
set_option maxRecDepth 100000 in
set_option maxHeartbeats 8000000 in
theorem adds_any (cs0 : Array Value) (c : Cat) (cs1 : Array Value) (t : Tab) (cs2 : Array Value) (p : Prc) (W : World) (hK0 : kCat.K W c cs0.toList) (hZ0 : SzCat c ∧ BdCat c) (hK1 : kTab.K W t cs1.toList) (hZ1 : SzTab t ∧ BdTab t) (hK2 : kPrc.K W p cs2.toList) (hZ2 : SzPrc p ∧ BdPrc p) :
    Calls Try.prog 3 #[.agg cs0, .agg cs1, .agg cs2] W fun e W' => e = .returned (.bool true) ∧ Below W.heap.size W W' := by
  obtain ⟨A1, a1, A2, a2, rfl, ⟨hA1, lA1⟩, hA2, lA2⟩ := kCat_open hK0
  obtain ⟨T1, e1, T2, e2, T3, e3, rfl, ⟨hT1, lT1⟩, ⟨hT2, lT2⟩, hT3, lT3⟩ := kTab_open hK1
  obtain ⟨P1, p1, P2, p2, rfl, ⟨hP1, lP1⟩, hP2, lP2⟩ := kPrc_open hK2
  clear hK0 hK1 hK2
  obtain ⟨w1, hw1, b1, s1, hb1⟩ := grow (W := W) rfl #[.slice A1 c.tables.length a1, .slice A2 c.procs.length a2] 25
  obtain ⟨w2, hw2, b2, s2, hb2⟩ := grow s1 #[.string t.name, .slice T1 t.cols.length e1, .slice T2 t.key.length e2, .int .i64 t.part, .slice T3 t.idx.length e3] 30
  obtain ⟨w3, hw3, b3, s3, hb3⟩ := grow s2 #[.string p.name, .slice P1 p.params.length p1, .slice P2 p.body.length p2, .int .i64 p.rows, .int .i64 p.bytes] 34
  obtain ⟨g1, hg1⟩ : ∃ g, g = W.heap.size := ⟨_, rfl⟩
  obtain ⟨g2, hg2⟩ : ∃ g, g = W.heap.size + 1 := ⟨_, rfl⟩
  obtain ⟨g3, hg3⟩ : ∃ g, g = W.heap.size + 1 + 1 := ⟨_, rfl⟩
  have BX1 := Aside0.mk (blk_below (blk_below b1 hb2) hb3)
  have BX2 := Aside0.mk (blk_below b2 hb3)
  have BX3 := Aside0.mk b3
  rw [← hg1] at BX1
  rw [← hg2] at BX2
  rw [← hg3] at BX3
  have hb03 := below_then (below_then hb1 hb1.size hb2) (by omega) hb3
  have HB3 := Aside0.mk hb03
  have CA1 := Aside0.mk (Kd.C_below hA1 hb03)
  have CA2 := Aside0.mk (Kd.C_below hA2 hb03)
  have CT1 := Aside0.mk (Kd.C_below hT1 hb03)
  have CT2 := Aside0.mk (Kd.C_below hT2 hb03)
  have CT3 := Aside0.mk (Kd.C_below hT3 hb03)
  have CP1 := Aside0.mk (Kd.C_below hP1 hb03)
  have CP2 := Aside0.mk (Kd.C_below hP2 hb03)
  have LL := Aside0.mk (And.intro lT1 (And.intro lT2 (And.intro lT3 (And.intro lP1 lP2))))
  have Z0 := Aside0.mk hZ0
  have Z1 := Aside0.mk hZ1
  have Z2 := Aside0.mk hZ2
  clear hA1 hA2 hT1 hT2 hT3 hP1 hP2 lA1 lA2 lT1 lT2 lT3 lP1 lP2 hZ0 hZ1 hZ2 hb03 hb1 hb2 hb3 b1 b2 b3 s1 s2 s3
  go_enter Try.func3, Try.ntmps3
  go_wp2_with fail
  rw [← hw1, ← hw2, ← hw3, ← hg3, ← hg2, ← hg1]
  clear hw1 hw2 hw3 hg1 hg2 hg3
  refine (weighs_any c A1 a1 A2 a2 w3 CA1.out CA2.out Z0.out.2 Z0.out.1).mono ?_
  rintro e w4 ⟨n, rfl, hb4⟩
  have B4 := Aside0.mk hb4
  clear hb4
  have k2_0 : w4.cell? ⟨g2, 0, none⟩ = some (.string t.name) := blk_cell (blk_below BX2.out B4.out) 0
  have k2_1 : w4.cell? ⟨g2, 1, none⟩ = some (.slice T1 t.cols.length e1) := blk_cell (blk_below BX2.out B4.out) 1
  have k2_2 : w4.cell? ⟨g2, 2, none⟩ = some (.slice T2 t.key.length e2) := blk_cell (blk_below BX2.out B4.out) 2
  have k2_3 : w4.cell? ⟨g2, 3, none⟩ = some (.int .i64 t.part) := blk_cell (blk_below BX2.out B4.out) 3
  have k2_4 : w4.cell? ⟨g2, 4, none⟩ = some (.slice T3 t.idx.length e3) := blk_cell (blk_below BX2.out B4.out) 4
  have k3_0 : (w4.alloc (Obj.cells #[.string t.name, .slice T1 t.cols.length e1, .slice T2 t.key.length e2, .int .i64 t.part, .slice T3 t.idx.length e3] 30)).cell? ⟨g3, 0, none⟩ = some (.string p.name) := blk_cell (blk_below BX3.out (below_then B4.out B4.out.size (below_alloc (Below.refl _ _) _))) 0
  have k3_1 : (w4.alloc (Obj.cells #[.string t.name, .slice T1 t.cols.length e1, .slice T2 t.key.length e2, .int .i64 t.part, .slice T3 t.idx.length e3] 30)).cell? ⟨g3, 1, none⟩ = some (.slice P1 p.params.length p1) := blk_cell (blk_below BX3.out (below_then B4.out B4.out.size (below_alloc (Below.refl _ _) _))) 1
  have k3_2 : (w4.alloc (Obj.cells #[.string t.name, .slice T1 t.cols.length e1, .slice T2 t.key.length e2, .int .i64 t.part, .slice T3 t.idx.length e3] 30)).cell? ⟨g3, 2, none⟩ = some (.slice P2 p.body.length p2) := blk_cell (blk_below BX3.out (below_then B4.out B4.out.size (below_alloc (Below.refl _ _) _))) 2
  have k3_3 : (w4.alloc (Obj.cells #[.string t.name, .slice T1 t.cols.length e1, .slice T2 t.key.length e2, .int .i64 t.part, .slice T3 t.idx.length e3] 30)).cell? ⟨g3, 3, none⟩ = some (.int .i64 p.rows) := blk_cell (blk_below BX3.out (below_then B4.out B4.out.size (below_alloc (Below.refl _ _) _))) 3
  have k3_4 : (w4.alloc (Obj.cells #[.string t.name, .slice T1 t.cols.length e1, .slice T2 t.key.length e2, .int .i64 t.part, .slice T3 t.idx.length e3] 30)).cell? ⟨g3, 4, none⟩ = some (.int .i64 p.bytes) := blk_cell (blk_below BX3.out (below_then B4.out B4.out.size (below_alloc (Below.refl _ _) _))) 4
  go_wp2_with fail
  obtain ⟨w5, hw5, x5, s5, hb5⟩ := grow (W := w4) rfl #[.string t.name, .slice T1 t.cols.length e1, .slice T2 t.key.length e2, .int .i64 t.part, .slice T3 t.idx.length e3] 30
  obtain ⟨w6, hw6, x6, s6, hb6⟩ := grow s5 #[.string p.name, .slice P1 p.params.length p1, .slice P2 p.body.length p2, .int .i64 p.rows, .int .i64 p.bytes] 34
  rw [← hw5, ← hw6]
  have hb36 := below_then B4.out B4.out.size (below_then hb5 hb5.size hb6)
  have hCT : kTab.C w6 (some ⟨w4.heap.size, 0, none⟩) ([t] : List Tab).length [t] := C_block (blk_below x5 hb6) (by simp) (reps1 rfl (kTab_one (t := t) (Kd.C_below CT1.out hb36) LL.out.1 (Kd.C_below CT2.out hb36) LL.out.2.1 (Kd.C_below CT3.out hb36) LL.out.2.2.1))
  have hCP : kPrc.C w6 (some ⟨w4.heap.size + 1, 0, none⟩) ([p] : List Prc).length [p] := C_block x6 (by simp) (reps1 rfl (kPrc_one (t := p) (Kd.C_below CP1.out hb36) LL.out.2.2.2.1 (Kd.C_below CP2.out hb36) LL.out.2.2.2.2))
  clear hw5 hw6 x5 x6 s5 s6 hb5 hb6 k2_0 k2_1 k2_2 k2_3 k2_4 k3_0 k3_1 k3_2 k3_3 k3_4
  refine (weighs_any ⟨[t], [p]⟩ (some ⟨w4.heap.size, 0, none⟩) 1 (some ⟨w4.heap.size + 1, 0, none⟩) 1 w6 hCT hCP ⟨by simpa using Z1.out.2, by simpa using Z2.out.2⟩ ⟨by simp, by simp, by simpa using Z1.out.1, by simpa using Z2.out.1⟩).mono ?_
  rintro e w7 ⟨m, rfl, hb7⟩
  have B7 := Aside0.mk (below_then hb36 hb36.size hb7)
  clear hb7 hb36 hCT hCP B4
  by_cases hbig : 2147483647 < n ∨ 2147483647 < m
  · have hend : Below W.heap.size W w7 := below_then HB3.out HB3.out.size B7.out
    by_cases h1 : 2147483647 < n
    · go_wp2_with fail
      go_ret
      exact ⟨rfl, hend⟩
    · have h2 : 2147483647 < m := hbig.resolve_left h1
      go_wp2_with fail
      go_ret
      exact ⟨rfl, hend⟩
  · have h1 : ¬ 2147483647 < n := fun h => hbig (.inl h)
    have h2 : ¬ 2147483647 < m := fun h => hbig (.inr h)
    clear hbig
    go_wp2_with fail
    refine (awake_any w7).mono ?_
    rintro e w8 ⟨rfl, hb8⟩
    have B8 := Aside0.mk (below_then B7.out B7.out.size hb8)
    clear hb8 B7
    have k1_0 : w8.cell? ⟨g1, 0, none⟩ = some (.slice A1 c.tables.length a1) := blk_cell (blk_below BX1.out B8.out) 0
    have k1_1 : w8.cell? ⟨g1, 1, none⟩ = some (.slice A2 c.procs.length a2) := blk_cell (blk_below BX1.out B8.out) 1
    go_wp2_with fail
    refine (ofRef_any c A1 a1 A2 a2 w8 (Kd.C_below CA1.out B8.out) (Kd.C_below CA2.out B8.out) Z0.out.1).mono ?_
    rintro e w9 ⟨v1, v2, rfl, ⟨ho1, ho2⟩, hb9⟩
    obtain ⟨O1, o1, rfl, _, hO1⟩ := Kd.R_reads ho1
    obtain ⟨O2, o2, rfl, _, hO2⟩ := Kd.R_reads ho2
    obtain ⟨w10, hw10, b4, s10, hb10⟩ := grow (W := w9) rfl #[.slice O1 c.tables.length o1, .slice O2 c.procs.length o2] 25
    obtain ⟨g4, hg4⟩ : ∃ g, g = w9.heap.size := ⟨_, rfl⟩
    rw [← hg4] at b4
    have BX4 := Aside0.mk b4
    have CO1 := Aside0.mk (Kd.C_below hO1 hb10)
    have CO2 := Aside0.mk (Kd.C_below hO2 hb10)
    have B10 := Aside0.mk (below_then (below_then B8.out B8.out.size hb9) (by have := B8.out.size; have := hb9.size; omega) hb10)
    clear ho1 ho2 hO1 hO2 hb9 hb10 b4 s10 k1_0 k1_1
    have k2_0 : w10.cell? ⟨g2, 0, none⟩ = some (.string t.name) := blk_cell (blk_below BX2.out B10.out) 0
    have k2_1 : w10.cell? ⟨g2, 1, none⟩ = some (.slice T1 t.cols.length e1) := blk_cell (blk_below BX2.out B10.out) 1
    have k2_2 : w10.cell? ⟨g2, 2, none⟩ = some (.slice T2 t.key.length e2) := blk_cell (blk_below BX2.out B10.out) 2
    have k2_3 : w10.cell? ⟨g2, 3, none⟩ = some (.int .i64 t.part) := blk_cell (blk_below BX2.out B10.out) 3
    have k2_4 : w10.cell? ⟨g2, 4, none⟩ = some (.slice T3 t.idx.length e3) := blk_cell (blk_below BX2.out B10.out) 4
    rw [hw10] at k2_0 k2_1 k2_2 k2_3 k2_4
    go_wp2_with fail
    rw [← hw10, ← hg4]
    clear hw10 hg4
    refine (tabOfRef_any t T1 e1 T2 e2 T3 e3 w10 (Kd.C_below CT1.out B10.out) (Kd.C_below CT2.out B10.out) (Kd.C_below CT3.out B10.out) (by have := Z1.out.1.1; omega) (by have := Z1.out.1.2.1; omega) (by have := Z1.out.1.2.2.1; omega) (fun x hx => by have := Z1.out.1.2.2.2 x hx; omega)).mono ?_
    rintro e w11 ⟨v1, v2, v3, rfl, ⟨ho1, ho2, ho3⟩, hb11⟩
    obtain ⟨X1, x1, rfl, _, hX1⟩ := Kd.R_reads ho1
    obtain ⟨X2, x2, rfl, _, hX2⟩ := Kd.R_reads ho2
    obtain ⟨X3, x3, rfl, _, hX3⟩ := Kd.R_reads ho3
    obtain ⟨w12, hw12, b5, s12, hb12⟩ := grow (W := w11) rfl #[.string t.name, .slice X1 t.cols.length x1, .slice X2 t.key.length x2, .int .i64 t.part, .slice X3 t.idx.length x3] 30
    obtain ⟨g5, hg5⟩ : ∃ g, g = w11.heap.size := ⟨_, rfl⟩
    rw [← hg5] at b5
    have hbs := below_then hb11 hb11.size hb12
    have BX5 := Aside0.mk b5
    replace BX4 := Aside0.mk (blk_below BX4.out hbs)
    replace CO1 := Aside0.mk (Kd.C_below CO1.out hbs)
    replace CO2 := Aside0.mk (Kd.C_below CO2.out hbs)
    have CX1 := Aside0.mk (Kd.C_below hX1 hb12)
    have CX2 := Aside0.mk (Kd.C_below hX2 hb12)
    have CX3 := Aside0.mk (Kd.C_below hX3 hb12)
    have B12 := Aside0.mk (below_then B10.out B10.out.size hbs)
    clear ho1 ho2 ho3 hX1 hX2 hX3 hb11 hb12 b5 s12 hbs k2_0 k2_1 k2_2 k2_3 k2_4
    have k3_0 : w12.cell? ⟨g3, 0, none⟩ = some (.string p.name) := blk_cell (blk_below BX3.out B12.out) 0
    have k3_1 : w12.cell? ⟨g3, 1, none⟩ = some (.slice P1 p.params.length p1) := blk_cell (blk_below BX3.out B12.out) 1
    have k3_2 : w12.cell? ⟨g3, 2, none⟩ = some (.slice P2 p.body.length p2) := blk_cell (blk_below BX3.out B12.out) 2
    have k3_3 : w12.cell? ⟨g3, 3, none⟩ = some (.int .i64 p.rows) := blk_cell (blk_below BX3.out B12.out) 3
    have k3_4 : w12.cell? ⟨g3, 4, none⟩ = some (.int .i64 p.bytes) := blk_cell (blk_below BX3.out B12.out) 4
    rw [hw12] at k3_0 k3_1 k3_2 k3_3 k3_4
    go_wp2_with fail
    rw [← hw12, ← hg5]
    clear hw12 hg5
    refine (prcOfRef_any p P1 p1 P2 p2 w12 (Kd.C_below CP1.out B12.out) (Kd.C_below CP2.out B12.out) (by have := Z2.out.1.1; omega) (by have := Z2.out.1.2; omega)).mono ?_
    rintro e w13 ⟨v1, v2, rfl, ⟨ho1, ho2⟩, hb13⟩
    obtain ⟨Y1, y1, rfl, _, hY1⟩ := Kd.R_reads ho1
    obtain ⟨Y2, y2, rfl, _, hY2⟩ := Kd.R_reads ho2
    obtain ⟨w14, hw14, b6, s14, hb14⟩ := grow (W := w13) rfl #[.string p.name, .slice Y1 p.params.length y1, .slice Y2 p.body.length y2, .int .i64 p.rows, .int .i64 p.bytes] 34
    obtain ⟨g6, hg6⟩ : ∃ g, g = w13.heap.size := ⟨_, rfl⟩
    rw [← hg6] at b6
    have hbs := below_then hb13 hb13.size hb14
    have B14 := below_then B12.out B12.out.size hbs
    have BX6 := Aside0.mk b6
    replace BX1 := Aside0.mk (blk_below BX1.out B14)
    replace BX2 := Aside0.mk (blk_below BX2.out B14)
    replace BX3 := Aside0.mk (blk_below BX3.out B14)
    replace BX4 := Aside0.mk (blk_below BX4.out hbs)
    replace BX5 := Aside0.mk (blk_below BX5.out hbs)
    replace CA1 := Aside0.mk (Kd.C_below CA1.out B14)
    replace CA2 := Aside0.mk (Kd.C_below CA2.out B14)
    replace CT1 := Aside0.mk (Kd.C_below CT1.out B14)
    replace CT2 := Aside0.mk (Kd.C_below CT2.out B14)
    replace CT3 := Aside0.mk (Kd.C_below CT3.out B14)
    replace CP1 := Aside0.mk (Kd.C_below CP1.out B14)
    replace CP2 := Aside0.mk (Kd.C_below CP2.out B14)
    replace CO1 := Aside0.mk (Kd.C_below CO1.out hbs)
    replace CO2 := Aside0.mk (Kd.C_below CO2.out hbs)
    replace CX1 := Aside0.mk (Kd.C_below CX1.out hbs)
    replace CX2 := Aside0.mk (Kd.C_below CX2.out hbs)
    replace CX3 := Aside0.mk (Kd.C_below CX3.out hbs)
    have CY1 := Aside0.mk (Kd.C_below hY1 hb14)
    have CY2 := Aside0.mk (Kd.C_below hY2 hb14)
    have HBW := Aside0.mk (below_then HB3.out HB3.out.size B14)
    clear ho1 ho2 hY1 hY2 hb13 hb14 b6 s14 hbs B14 B12 B10 B8 HB3 k3_0 k3_1 k3_2 k3_3 k3_4
    have k4_0 : w14.cell? ⟨g4, 0, none⟩ = some (.slice O1 c.tables.length o1) := blk_cell (blk_below BX4.out (Below.refl _ _)) 0
    have k4_1 : w14.cell? ⟨g4, 1, none⟩ = some (.slice O2 c.procs.length o2) := blk_cell (blk_below BX4.out (Below.refl _ _)) 1
    have k5_0 : w14.cell? ⟨g5, 0, none⟩ = some (.string t.name) := blk_cell (blk_below BX5.out (Below.refl _ _)) 0
    have k5_1 : w14.cell? ⟨g5, 1, none⟩ = some (.slice X1 t.cols.length x1) := blk_cell (blk_below BX5.out (Below.refl _ _)) 1
    have k5_2 : w14.cell? ⟨g5, 2, none⟩ = some (.slice X2 t.key.length x2) := blk_cell (blk_below BX5.out (Below.refl _ _)) 2
    have k5_3 : w14.cell? ⟨g5, 3, none⟩ = some (.int .i64 t.part) := blk_cell (blk_below BX5.out (Below.refl _ _)) 3
    have k5_4 : w14.cell? ⟨g5, 4, none⟩ = some (.slice X3 t.idx.length x3) := blk_cell (blk_below BX5.out (Below.refl _ _)) 4
    rw [hw14] at k4_0 k4_1 k5_0 k5_1 k5_2 k5_3 k5_4
    go_wp2_with fail
    rw [← hw14, ← hg6]
    clear hw14 hg6 k4_0 k4_1 k5_0 k5_1 k5_2 k5_3 k5_4
    obtain ⟨⟨i1, ca⟩, hr1⟩ : ∃ r, r = addTab c t := ⟨_, rfl⟩
    obtain ⟨⟨i2, cb⟩, hr2⟩ : ∃ r, r = addPrc c p := ⟨_, rfl⟩
    have HR1 := Aside0.mk hr1
    have HR2 := Aside0.mk hr2
    clear hr1 hr2
    refine (addTab_any c O1 o1 O2 o2 t X1 x1 X2 x2 X3 x3 w14 CO1.out CO2.out Z0.out.1 CX1.out CX2.out CX3.out Z1.out.1).mono ?_
    intro e w15 hco
    rw [← HR1.out] at hco
    have hcoR := hco.openR
    dsimp only at hcoR
    obtain ⟨V1, v1, V2, v2, rfl, ho1, ho2, hbu⟩ := hcoR
    obtain ⟨w16, hw16, bb, sb, hbb⟩ := grow (W := w15) rfl #[.slice V1 ca.tables.length v1, .slice V2 ca.procs.length v2] 25
    obtain ⟨g7, hg7⟩ : ∃ g, g = w15.heap.size := ⟨_, rfl⟩
    rw [← hg7] at bb
    have hbs := below_then hbu hbu.size hbb
    have Sg7 := Lib.hid (And.intro hbu.size (And.intro hg7 sb))
    have RA1 := Aside0.mk (Kd.R_below ho1 hbb)
    have RA2 := Aside0.mk (Kd.R_below ho2 hbb)
    have BX7 := Aside0.mk bb
    have B16 := Aside0.mk hbs
    clear hco ho1 ho2 hbu hbb hbs bb sb
    have k4_0 : w16.cell? ⟨g4, 0, none⟩ = some (.slice O1 c.tables.length o1) := blk_cell (blk_below BX4.out B16.out) 0
    have k4_1 : w16.cell? ⟨g4, 1, none⟩ = some (.slice O2 c.procs.length o2) := blk_cell (blk_below BX4.out B16.out) 1
    have k6_0 : w16.cell? ⟨g6, 0, none⟩ = some (.string p.name) := blk_cell (blk_below BX6.out B16.out) 0
    have k6_1 : w16.cell? ⟨g6, 1, none⟩ = some (.slice Y1 p.params.length y1) := blk_cell (blk_below BX6.out B16.out) 1
    have k6_2 : w16.cell? ⟨g6, 2, none⟩ = some (.slice Y2 p.body.length y2) := blk_cell (blk_below BX6.out B16.out) 2
    have k6_3 : w16.cell? ⟨g6, 3, none⟩ = some (.int .i64 p.rows) := blk_cell (blk_below BX6.out B16.out) 3
    have k6_4 : w16.cell? ⟨g6, 4, none⟩ = some (.int .i64 p.bytes) := blk_cell (blk_below BX6.out B16.out) 4
    rw [hw16] at k4_0 k4_1 k6_0 k6_1 k6_2 k6_3 k6_4
    go_wp2_with fail
    rw [← hw16, ← hg7]
    clear hw16 hg7 k4_0 k4_1 k6_0 k6_1 k6_2 k6_3 k6_4
    refine (addPrc_any c O1 o1 O2 o2 p Y1 y1 Y2 y2 w16 (Kd.C_below CO1.out B16.out) (Kd.C_below CO2.out B16.out) Z0.out.1 (Kd.C_below CY1.out B16.out) (Kd.C_below CY2.out B16.out) Z2.out.1).mono ?_
    intro e w17 hco
    rw [← HR2.out] at hco
    have hcoR := hco.openR
    dsimp only at hcoR
    obtain ⟨U1, u1, U2, u2, rfl, ho1, ho2, hbu⟩ := hcoR
    obtain ⟨w18, hw18, bb, sb, hbb⟩ := grow (W := w17) rfl #[.slice U1 cb.tables.length u1, .slice U2 cb.procs.length u2] 25
    obtain ⟨g8, hg8⟩ : ∃ g, g = w17.heap.size := ⟨_, rfl⟩
    rw [← hg8] at bb
    have hbs := below_then hbu hbu.size hbb
    have Sg8 := Lib.hid (And.intro hbu.size (And.intro hg8 sb))
    have RB1 := Aside0.mk (Kd.R_below ho1 hbb)
    have RB2 := Aside0.mk (Kd.R_below ho2 hbb)
    have BX8 := Aside0.mk bb
    replace BX7 := Aside0.mk (blk_below BX7.out hbs)
    replace RA1 := Aside0.mk (Kd.R_below RA1.out hbs)
    replace RA2 := Aside0.mk (Kd.R_below RA2.out hbs)
    have B18 := Aside0.mk (below_then B16.out B16.out.size hbs)
    clear hco ho1 ho2 hbu hbb hbs bb sb B16
    have k1_0 : w18.cell? ⟨g1, 0, none⟩ = some (.slice A1 c.tables.length a1) := blk_cell (blk_below BX1.out B18.out) 0
    have k1_1 : w18.cell? ⟨g1, 1, none⟩ = some (.slice A2 c.procs.length a2) := blk_cell (blk_below BX1.out B18.out) 1
    have k2_0 : w18.cell? ⟨g2, 0, none⟩ = some (.string t.name) := blk_cell (blk_below BX2.out B18.out) 0
    have k2_1 : w18.cell? ⟨g2, 1, none⟩ = some (.slice T1 t.cols.length e1) := blk_cell (blk_below BX2.out B18.out) 1
    have k2_2 : w18.cell? ⟨g2, 2, none⟩ = some (.slice T2 t.key.length e2) := blk_cell (blk_below BX2.out B18.out) 2
    have k2_3 : w18.cell? ⟨g2, 3, none⟩ = some (.int .i64 t.part) := blk_cell (blk_below BX2.out B18.out) 3
    have k2_4 : w18.cell? ⟨g2, 4, none⟩ = some (.slice T3 t.idx.length e3) := blk_cell (blk_below BX2.out B18.out) 4
    rw [hw18] at k1_0 k1_1 k2_0 k2_1 k2_2 k2_3 k2_4
    go_wp2_with fail
    rw [← hw18, ← hg8]
    clear hw18 hg8 k1_0 k1_1 k2_0 k2_1 k2_2 k2_3 k2_4
    refine (addTabRef_any c A1 a1 A2 a2 t T1 e1 T2 e2 T3 e3 w18 (Kd.C_below CA1.out B18.out) (Kd.C_below CA2.out B18.out) Z0.out.1 (Kd.C_below CT1.out B18.out) (Kd.C_below CT2.out B18.out) (Kd.C_below CT3.out B18.out) Z1.out.1 Z0.out.2 Z1.out.2).mono ?_
    intro e w19 hco
    rw [← HR1.out] at hco
    have hcoR := hco.openR
    dsimp only at hcoR
    obtain ⟨M1, m1, M2, m2, rfl, ho1, ho2, hbu⟩ := hcoR
    obtain ⟨w20, hw20, bb, sb, hbb⟩ := grow (W := w19) rfl #[.slice M1 ca.tables.length m1, .slice M2 ca.procs.length m2] 25
    obtain ⟨g9, hg9⟩ : ∃ g, g = w19.heap.size := ⟨_, rfl⟩
    rw [← hg9] at bb
    have hbs := below_then hbu hbu.size hbb
    have Sg9 := Lib.hid (And.intro hbu.size (And.intro hg9 sb))
    have RC1 := Aside0.mk (Kd.R_below ho1 hbb)
    have RC2 := Aside0.mk (Kd.R_below ho2 hbb)
    have BX9 := Aside0.mk bb
    replace BX7 := Aside0.mk (blk_below BX7.out hbs)
    replace BX8 := Aside0.mk (blk_below BX8.out hbs)
    replace RA1 := Aside0.mk (Kd.R_below RA1.out hbs)
    replace RA2 := Aside0.mk (Kd.R_below RA2.out hbs)
    replace RB1 := Aside0.mk (Kd.R_below RB1.out hbs)
    replace RB2 := Aside0.mk (Kd.R_below RB2.out hbs)
    have B20 := Aside0.mk (below_then B18.out B18.out.size hbs)
    clear hco ho1 ho2 hbu hbb hbs bb sb B18
    have k1_0 : w20.cell? ⟨g1, 0, none⟩ = some (.slice A1 c.tables.length a1) := blk_cell (blk_below BX1.out B20.out) 0
    have k1_1 : w20.cell? ⟨g1, 1, none⟩ = some (.slice A2 c.procs.length a2) := blk_cell (blk_below BX1.out B20.out) 1
    have k3_0 : w20.cell? ⟨g3, 0, none⟩ = some (.string p.name) := blk_cell (blk_below BX3.out B20.out) 0
    have k3_1 : w20.cell? ⟨g3, 1, none⟩ = some (.slice P1 p.params.length p1) := blk_cell (blk_below BX3.out B20.out) 1
    have k3_2 : w20.cell? ⟨g3, 2, none⟩ = some (.slice P2 p.body.length p2) := blk_cell (blk_below BX3.out B20.out) 2
    have k3_3 : w20.cell? ⟨g3, 3, none⟩ = some (.int .i64 p.rows) := blk_cell (blk_below BX3.out B20.out) 3
    have k3_4 : w20.cell? ⟨g3, 4, none⟩ = some (.int .i64 p.bytes) := blk_cell (blk_below BX3.out B20.out) 4
    rw [hw20] at k1_0 k1_1 k3_0 k3_1 k3_2 k3_3 k3_4
    go_wp2_with fail
    rw [← hw20, ← hg9]
    clear hw20 hg9 k1_0 k1_1 k3_0 k3_1 k3_2 k3_3 k3_4
    refine (addPrcRef_any c A1 a1 A2 a2 p P1 p1 P2 p2 w20 (Kd.C_below CA1.out B20.out) (Kd.C_below CA2.out B20.out) Z0.out.1 (Kd.C_below CP1.out B20.out) (Kd.C_below CP2.out B20.out) Z2.out.1 Z0.out.2 Z2.out.2).mono ?_
    intro e w21 hco
    rw [← HR2.out] at hco
    have hcoR := hco.openR
    dsimp only at hcoR
    obtain ⟨N1, n1, N2, n2, rfl, ho1, ho2, hbu⟩ := hcoR
    obtain ⟨w22, hw22, bb, sb, hbb⟩ := grow (W := w21) rfl #[.slice N1 cb.tables.length n1, .slice N2 cb.procs.length n2] 25
    obtain ⟨g10, hg10⟩ : ∃ g, g = w21.heap.size := ⟨_, rfl⟩
    rw [← hg10] at bb
    have hbs := below_then hbu hbu.size hbb
    have Sg10 := Lib.hid (And.intro hbu.size (And.intro hg10 sb))
    have RD1 := Aside0.mk (Kd.R_below ho1 hbb)
    have RD2 := Aside0.mk (Kd.R_below ho2 hbb)
    have BX10 := Aside0.mk bb
    replace BX7 := Aside0.mk (blk_below BX7.out hbs)
    replace BX8 := Aside0.mk (blk_below BX8.out hbs)
    replace BX9 := Aside0.mk (blk_below BX9.out hbs)
    replace RA1 := Aside0.mk (Kd.R_below RA1.out hbs)
    replace RA2 := Aside0.mk (Kd.R_below RA2.out hbs)
    replace RB1 := Aside0.mk (Kd.R_below RB1.out hbs)
    replace RB2 := Aside0.mk (Kd.R_below RB2.out hbs)
    replace RC1 := Aside0.mk (Kd.R_below RC1.out hbs)
    replace RC2 := Aside0.mk (Kd.R_below RC2.out hbs)
    have B22 := Aside0.mk (below_then B20.out B20.out.size hbs)
    clear hco ho1 ho2 hbu hbb hbs bb sb B20
    have k7_0 : w22.cell? ⟨g7, 0, none⟩ = some (.slice V1 ca.tables.length v1) := blk_cell (blk_below BX7.out (Below.refl _ _)) 0
    have k7_1 : w22.cell? ⟨g7, 1, none⟩ = some (.slice V2 ca.procs.length v2) := blk_cell (blk_below BX7.out (Below.refl _ _)) 1
    have k9_0 : w22.cell? ⟨g9, 0, none⟩ = some (.slice M1 ca.tables.length m1) := blk_cell (blk_below BX9.out (Below.refl _ _)) 0
    have k9_1 : w22.cell? ⟨g9, 1, none⟩ = some (.slice M2 ca.procs.length m2) := blk_cell (blk_below BX9.out (Below.refl _ _)) 1
    rw [hw22] at k7_0 k7_1 k9_0 k9_1
    go_wp2_with fail
    rw [← hw22, ← hg10]
    clear hw22 hg10 k7_0 k7_1 k9_0 k9_1
    refine (same_any ca V1 v1 V2 v2 ca M1 m1 M2 m2 w22 (Kd.R_reads' RA1.out).2.2 (Kd.R_reads' RA2.out).2.2 (Kd.R_reads' RC1.out).2.2 (Kd.R_reads' RC2.out).2.2).mono ?_
    intro e w23 hq
    rw [decide_eq_true rfl] at hq
    obtain ⟨rfl, hbs⟩ := hq
    replace BX7 := Aside0.mk (blk_below BX7.out hbs)
    replace BX8 := Aside0.mk (blk_below BX8.out hbs)
    replace BX10 := Aside0.mk (blk_below BX10.out hbs)
    replace RA1 := Aside0.mk (Kd.R_below RA1.out hbs)
    replace RA2 := Aside0.mk (Kd.R_below RA2.out hbs)
    replace RB1 := Aside0.mk (Kd.R_below RB1.out hbs)
    replace RB2 := Aside0.mk (Kd.R_below RB2.out hbs)
    replace RD1 := Aside0.mk (Kd.R_below RD1.out hbs)
    replace RD2 := Aside0.mk (Kd.R_below RD2.out hbs)
    have B23 := Aside0.mk (below_then B22.out B22.out.size hbs)
    clear hbs B22
    have k8_0 : w23.cell? ⟨g8, 0, none⟩ = some (.slice U1 cb.tables.length u1) := blk_cell (blk_below BX8.out (Below.refl _ _)) 0
    have k8_1 : w23.cell? ⟨g8, 1, none⟩ = some (.slice U2 cb.procs.length u2) := blk_cell (blk_below BX8.out (Below.refl _ _)) 1
    have k10_0 : w23.cell? ⟨g10, 0, none⟩ = some (.slice N1 cb.tables.length n1) := blk_cell (blk_below BX10.out (Below.refl _ _)) 0
    have k10_1 : w23.cell? ⟨g10, 1, none⟩ = some (.slice N2 cb.procs.length n2) := blk_cell (blk_below BX10.out (Below.refl _ _)) 1
    go_wp2_with fail
    clear k8_0 k8_1 k10_0 k10_1
    refine (same_any cb U1 u1 U2 u2 cb N1 n1 N2 n2 w23 (Kd.R_reads' RB1.out).2.2 (Kd.R_reads' RB2.out).2.2 (Kd.R_reads' RD1.out).2.2 (Kd.R_reads' RD2.out).2.2).mono ?_
    intro e w24 hq
    rw [decide_eq_true rfl] at hq
    obtain ⟨rfl, hbs⟩ := hq
    replace BX7 := Aside0.mk (blk_below BX7.out hbs)
    replace BX8 := Aside0.mk (blk_below BX8.out hbs)
    replace RA1 := Aside0.mk (Kd.R_below RA1.out hbs)
    replace RA2 := Aside0.mk (Kd.R_below RA2.out hbs)
    replace RB1 := Aside0.mk (Kd.R_below RB1.out hbs)
    replace RB2 := Aside0.mk (Kd.R_below RB2.out hbs)
    have B24 := Aside0.mk (below_then B23.out B23.out.size hbs)
    clear hbs B23
    have k7_0 : w24.cell? ⟨g7, 0, none⟩ = some (.slice V1 ca.tables.length v1) := blk_cell (blk_below BX7.out (Below.refl _ _)) 0
    have k7_1 : w24.cell? ⟨g7, 1, none⟩ = some (.slice V2 ca.procs.length v2) := blk_cell (blk_below BX7.out (Below.refl _ _)) 1
    go_wp2_with fail
    clear k7_0 k7_1
    refine (turned_any (fun k => w14.heap.size ≤ k ∧ k < w15.heap.size) V1 ca.tables.length v1 V2 ca.procs.length v2 w24 (shTab_of RA1.out) (shPrc_of RA2.out)).mono ?_
    rintro e w25 ⟨rfl, hkin⟩
    have l7 := Sg7.out
    have l8 := Sg8.out
    have B25 := Aside0.mk (below_kin B24.out hkin (fun i hi => hi.1))
    replace BX8 := Aside0.mk (Kin.blk (w0 := w24) BX8.out hkin (fun hi => by omega))
    replace RB1 := Aside0.mk (Kin.R RB1.out hkin (fun i hi hj => by omega))
    replace RB2 := Aside0.mk (Kin.R RB2.out hkin (fun i hi hj => by omega))
    clear hkin B24 l7 l8
    have k8_0 : w25.cell? ⟨g8, 0, none⟩ = some (.slice U1 cb.tables.length u1) := blk_cell (blk_below BX8.out (Below.refl _ _)) 0
    have k8_1 : w25.cell? ⟨g8, 1, none⟩ = some (.slice U2 cb.procs.length u2) := blk_cell (blk_below BX8.out (Below.refl _ _)) 1
    go_wp2_with fail
    clear k8_0 k8_1
    refine (turned_any (fun k => w16.heap.size ≤ k ∧ k < w17.heap.size) U1 cb.tables.length u1 U2 cb.procs.length u2 w25 (shTab_of RB1.out) (shPrc_of RB2.out)).mono ?_
    rintro e w26 ⟨rfl, hkin⟩
    have l7 := Sg7.out
    have l8 := Sg8.out
    have B26 := Aside0.mk (below_kin B25.out hkin (fun i hi => by omega))
    clear hkin B25 l7 l8
    have k4_0 : w26.cell? ⟨g4, 0, none⟩ = some (.slice O1 c.tables.length o1) := blk_cell (blk_below BX4.out B26.out) 0
    have k4_1 : w26.cell? ⟨g4, 1, none⟩ = some (.slice O2 c.procs.length o2) := blk_cell (blk_below BX4.out B26.out) 1
    have k1_0 : w26.cell? ⟨g1, 0, none⟩ = some (.slice A1 c.tables.length a1) := blk_cell (blk_below BX1.out B26.out) 0
    have k1_1 : w26.cell? ⟨g1, 1, none⟩ = some (.slice A2 c.procs.length a2) := blk_cell (blk_below BX1.out B26.out) 1
    go_wp2_with fail
    clear k4_0 k4_1 k1_0 k1_1
    refine (same_any c O1 o1 O2 o2 c A1 a1 A2 a2 w26 (Kd.C_below CO1.out B26.out) (Kd.C_below CO2.out B26.out) (Kd.C_below CA1.out B26.out) (Kd.C_below CA2.out B26.out)).mono ?_
    intro e w27 hq
    rw [decide_eq_true rfl] at hq
    obtain ⟨rfl, hbs⟩ := hq
    have B27 := Aside0.mk (below_then B26.out B26.out.size hbs)
    clear hbs B26
    have k5_0 : w27.cell? ⟨g5, 0, none⟩ = some (.string t.name) := blk_cell (blk_below BX5.out B27.out) 0
    have k5_1 : w27.cell? ⟨g5, 1, none⟩ = some (.slice X1 t.cols.length x1) := blk_cell (blk_below BX5.out B27.out) 1
    have k5_2 : w27.cell? ⟨g5, 2, none⟩ = some (.slice X2 t.key.length x2) := blk_cell (blk_below BX5.out B27.out) 2
    have k5_3 : w27.cell? ⟨g5, 3, none⟩ = some (.int .i64 t.part) := blk_cell (blk_below BX5.out B27.out) 3
    have k5_4 : w27.cell? ⟨g5, 4, none⟩ = some (.slice X3 t.idx.length x3) := blk_cell (blk_below BX5.out B27.out) 4
    have k2_0 : w27.cell? ⟨g2, 0, none⟩ = some (.string t.name) := blk_cell (blk_below BX2.out B27.out) 0
    have k2_1 : w27.cell? ⟨g2, 1, none⟩ = some (.slice T1 t.cols.length e1) := blk_cell (blk_below BX2.out B27.out) 1
    have k2_2 : w27.cell? ⟨g2, 2, none⟩ = some (.slice T2 t.key.length e2) := blk_cell (blk_below BX2.out B27.out) 2
    have k2_3 : w27.cell? ⟨g2, 3, none⟩ = some (.int .i64 t.part) := blk_cell (blk_below BX2.out B27.out) 3
    have k2_4 : w27.cell? ⟨g2, 4, none⟩ = some (.slice T3 t.idx.length e3) := blk_cell (blk_below BX2.out B27.out) 4
    go_wp2_with fail
    clear k5_0 k5_1 k5_2 k5_3 k5_4 k2_0 k2_1 k2_2 k2_3 k2_4
    refine (sameTab_any t X1 x1 X2 x2 X3 x3 t T1 e1 T2 e2 T3 e3 w27 (Kd.C_below CX1.out B27.out) (Kd.C_below CX2.out B27.out) (Kd.C_below CX3.out B27.out) (Kd.C_below CT1.out B27.out) (Kd.C_below CT2.out B27.out) (Kd.C_below CT3.out B27.out)).mono ?_
    intro e w28 hq
    rw [decide_eq_true rfl] at hq
    obtain ⟨rfl, hbs⟩ := hq
    have B28 := Aside0.mk (below_then B27.out B27.out.size hbs)
    clear hbs B27
    have k6_0 : w28.cell? ⟨g6, 0, none⟩ = some (.string p.name) := blk_cell (blk_below BX6.out B28.out) 0
    have k6_1 : w28.cell? ⟨g6, 1, none⟩ = some (.slice Y1 p.params.length y1) := blk_cell (blk_below BX6.out B28.out) 1
    have k6_2 : w28.cell? ⟨g6, 2, none⟩ = some (.slice Y2 p.body.length y2) := blk_cell (blk_below BX6.out B28.out) 2
    have k6_3 : w28.cell? ⟨g6, 3, none⟩ = some (.int .i64 p.rows) := blk_cell (blk_below BX6.out B28.out) 3
    have k6_4 : w28.cell? ⟨g6, 4, none⟩ = some (.int .i64 p.bytes) := blk_cell (blk_below BX6.out B28.out) 4
    have k3_0 : w28.cell? ⟨g3, 0, none⟩ = some (.string p.name) := blk_cell (blk_below BX3.out B28.out) 0
    have k3_1 : w28.cell? ⟨g3, 1, none⟩ = some (.slice P1 p.params.length p1) := blk_cell (blk_below BX3.out B28.out) 1
    have k3_2 : w28.cell? ⟨g3, 2, none⟩ = some (.slice P2 p.body.length p2) := blk_cell (blk_below BX3.out B28.out) 2
    have k3_3 : w28.cell? ⟨g3, 3, none⟩ = some (.int .i64 p.rows) := blk_cell (blk_below BX3.out B28.out) 3
    have k3_4 : w28.cell? ⟨g3, 4, none⟩ = some (.int .i64 p.bytes) := blk_cell (blk_below BX3.out B28.out) 4
    go_wp2_with fail
    clear k6_0 k6_1 k6_2 k6_3 k6_4 k3_0 k3_1 k3_2 k3_3 k3_4
    refine (samePrc_any p Y1 y1 Y2 y2 p P1 p1 P2 p2 w28 (Kd.C_below CY1.out B28.out) (Kd.C_below CY2.out B28.out) (Kd.C_below CP1.out B28.out) (Kd.C_below CP2.out B28.out)).mono ?_
    intro e w29 hq
    rw [decide_eq_true rfl] at hq
    obtain ⟨rfl, hbs⟩ := hq
    have B29 := Aside0.mk (below_then B28.out B28.out.size hbs)
    clear hbs B28
    have hend : Below W.heap.size W w29 := below_then HBW.out HBW.out.size B29.out
    go_wp2_with fail
    go_ret
    exact ⟨rfl, hend⟩
end Go.Proofs.Ytcmgdieeclninaa
