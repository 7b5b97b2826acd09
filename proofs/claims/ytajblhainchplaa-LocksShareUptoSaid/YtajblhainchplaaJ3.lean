/- Layer 19: the walks of Right, below, Conflict and the reference's. -/
import Derived.Test.YtajblhainchplaaRows
import Derived.Test.YtajblhainchplaaJ2
import Derived.Laws.Cover1
set_option linter.unusedVariables false
set_option linter.unusedSimpArgs false
namespace Go.Proofs.Ytajblhainchplaa
open Go.RowKit Go.Proofs.YtajblhainchplaaW.PrintWords Go.Proofs.YtajblhainchplaaW.PrintLast
theorem isEmpty_no {l : List UInt8} (h : ¬ l = []) : l.isEmpty = false := by cases l <;> simp_all
theorem gtr_end {a b : ByteArray} {p : Prop} [Decidable p] (h : ¬ a.toList = []) (hp : p ↔ Slt b a) : (a.toList.isEmpty || !Op.bytesLess a.toList b.toList && !a.toList == b.toList) = decide p := by
  rw [isEmpty_no h, Bool.false_or, ← Bool.not_or, gtr_iff]
  exact decide_eq_decide.2 hp.symm
theorem lss_end {a b : ByteArray} {p : Prop} [Decidable p] (h : ¬ a.toList = []) (hp : p ↔ Slt b a) : (a.toList.isEmpty || Op.bytesLess b.toList a.toList) = decide p := by
  rw [isEmpty_no h, Bool.false_or, Bool.eq_iff_iff, decide_eq_true_iff]
  exact hp.symm
set_option maxHeartbeats 400000 in
theorem right_any (x : Lk) (w : World) : Calls Try.prog 8 #[.agg #[.int .i64 x.table, .string x.lo, .string x.hi, .bool x.write]] w fun e w' => e = .returned (.bool (decide (RightL x))) ∧ Below w.heap.size w w' := by
  have hb : Below w.heap.size w (w.alloc (Obj.cells #[.int .i64 x.table, .string x.lo, .string x.hi, .bool x.write] 23)) := below_alloc (Below.refl _ _) _
  have HB := Aside0.mk hb
  clear hb
  by_cases h1 : 0 ≤ x.table
  · by_cases h2 : x.table < 8
    · by_cases h3 : x.hi.toList = []
      · have HR := Lib.hid (show RightL x from ⟨⟨h1, h2⟩, .inl h3⟩)
        go_enter Try.func8, Try.ntmps8
        go_wp2_with fail
        go_ret
        exact ⟨ret_bool (decide_eq_true HR.out).symm, HB.out⟩
      · have HR := Lib.hid (show RightL x ↔ Slt x.lo x.hi from ⟨fun h => h.2.elim (fun h => absurd h h3) (fun h => h), fun h => ⟨⟨h1, h2⟩, .inr h⟩⟩)
        go_enter Try.func8, Try.ntmps8
        go_wp2_with fail
        go_ret
        exact ⟨ret_bool (gtr_end h3 HR.out), HB.out⟩
    · go_enter Try.func8, Try.ntmps8
      go_wp2_with fail
      go_ret
      exact ⟨ret_bool (decide_eq_false (fun h => by have := h.1.2; omega)).symm, HB.out⟩
  · go_enter Try.func8, Try.ntmps8
    go_wp2_with fail
    go_ret
    exact ⟨ret_bool (decide_eq_false (fun h => by have := h.1.1; omega)).symm, HB.out⟩
set_option maxHeartbeats 400000 in
theorem rright_any (x : Lk) (w : World) : Calls Try.prog 9 #[.agg #[.int .i64 x.table, .string x.lo, .string x.hi, .bool x.write]] w fun e w' => e = .returned (.bool (decide (RightL x))) ∧ Below w.heap.size w w' := by
  have hb : Below w.heap.size w (w.alloc (Obj.cells #[.int .i64 x.table, .string x.lo, .string x.hi, .bool x.write] 23)) := below_alloc (Below.refl _ _) _
  have HB := Aside0.mk hb
  clear hb
  by_cases h1 : 0 ≤ x.table
  · by_cases h2 : x.table < 8
    · by_cases h3 : x.hi.toList = []
      · have HR := Lib.hid (show RightL x from ⟨⟨h1, h2⟩, .inl h3⟩)
        go_enter Try.func9, Try.ntmps9
        go_wp2_with fail
        go_ret
        exact ⟨ret_bool (decide_eq_true HR.out).symm, HB.out⟩
      · have HR := Lib.hid (show RightL x ↔ Slt x.lo x.hi from ⟨fun h => h.2.elim (fun h => absurd h h3) (fun h => h), fun h => ⟨⟨h1, h2⟩, .inr h⟩⟩)
        go_enter Try.func9, Try.ntmps9
        go_wp2_with fail
        go_ret
        exact ⟨ret_bool (gtr_end h3 HR.out), HB.out⟩
    · go_enter Try.func9, Try.ntmps9
      go_wp2_with fail
      go_ret
      exact ⟨ret_bool (decide_eq_false (fun h => by have := h.1.2; omega)).symm, HB.out⟩
  · go_enter Try.func9, Try.ntmps9
    go_wp2_with fail
    go_ret
    exact ⟨ret_bool (decide_eq_false (fun h => by have := h.1.1; omega)).symm, HB.out⟩
set_option maxHeartbeats 400000 in
theorem below_any (s : ByteArray) (x : Lk) (w : World) : Calls Try.prog 29 #[.string s, .agg #[.int .i64 x.table, .string x.lo, .string x.hi, .bool x.write]] w fun e w' => e = .returned (.bool (decide (Under s x.hi))) ∧ Below w.heap.size w w' := by
  have hb : Below w.heap.size w (w.alloc (Obj.cells #[.int .i64 x.table, .string x.lo, .string x.hi, .bool x.write] 23)) := below_alloc (Below.refl _ _) _
  have HB := Aside0.mk hb
  clear hb
  by_cases h3 : x.hi.toList = []
  · have HR := Lib.hid (show Under s x.hi from .inl h3)
    go_enter Try.func29, Try.ntmps29
    go_wp2_with fail
    go_ret
    exact ⟨ret_bool (decide_eq_true HR.out).symm, HB.out⟩
  · have HR := Lib.hid (show Under s x.hi ↔ Slt s x.hi from ⟨fun h => h.elim (fun h => absurd h h3) (fun h => h), .inr⟩)
    go_enter Try.func29, Try.ntmps29
    go_wp2_with fail
    go_ret
    exact ⟨ret_bool (lss_end h3 HR.out), HB.out⟩
theorem run_max (t : Array TypeId) (ty : TypeId) (a b : ByteArray) (w : World) : (Builtin.max_ t ty #[.string a, .string b]).run Try.prog w = .ok (.string (maxS a b)) w := by
  have h1 : Op.stringOp .geq a b = pure (.bool (!Op.bytesLess a.toList b.toList)) := by simp [Op.stringOp]
  by_cases h : Op.bytesLess a.toList b.toList = true
  · simp [Builtin.max_, Builtin.max2, h1, h, asBool, maxS, Slt]
  · simp [Builtin.max_, Builtin.max2, h1, h, asBool, maxS, Slt]
set_option maxRecDepth 100000 in
set_option maxHeartbeats 2000000 in
theorem conflict_any (a b : Lk) (w : World) : Calls Try.prog 10 #[.agg #[.int .i64 a.table, .string a.lo, .string a.hi, .bool a.write], .agg #[.int .i64 b.table, .string b.lo, .string b.hi, .bool b.write]] w fun e w' => e = .returned (.bool (decide (Meet a b))) ∧ Below w.heap.size w w' := by
  obtain ⟨ta, la, ha, wa⟩ := a
  obtain ⟨tb, lb, hb, wb⟩ := b
  dsimp only
  obtain ⟨W0, h0, b0, s0, B0⟩ := grow (W := w) rfl #[.int .i64 ta, .string la, .string ha, .bool wa] 23
  obtain ⟨W1, h1, b1, s1, B1⟩ := grow s0 #[.int .i64 tb, .string lb, .string hb, .bool wb] 23
  have HBEL := Aside0.mk (below_then B0 B0.size B1)
  have C0 := Aside0.mk (blk_below b0 B1)
  have C1 := Aside0.mk b1
  have x0 : W1.cell? ⟨w.heap.size, 0, none⟩ = some (.int .i64 ta) := blk_cell C0.out 0
  have x1 : W1.cell? ⟨w.heap.size, 1, none⟩ = some (.string la) := blk_cell C0.out 1
  have x2 : W1.cell? ⟨w.heap.size, 2, none⟩ = some (.string ha) := blk_cell C0.out 2
  have x3 : W1.cell? ⟨w.heap.size, 3, none⟩ = some (.bool wa) := blk_cell C0.out 3
  have y0 : W1.cell? ⟨w.heap.size + 1, 0, none⟩ = some (.int .i64 tb) := blk_cell C1.out 0
  have y1 : W1.cell? ⟨w.heap.size + 1, 1, none⟩ = some (.string lb) := blk_cell C1.out 1
  have y2 : W1.cell? ⟨w.heap.size + 1, 2, none⟩ = some (.string hb) := blk_cell C1.out 2
  have y3 : W1.cell? ⟨w.heap.size + 1, 3, none⟩ = some (.bool wb) := blk_cell C1.out 3
  have H0 := Lib.hid h0
  have H1 := Lib.hid h1
  clear h0 h1 b0 b1 s0 s1 B0 B1
  have hmx := fun t ty => run_max t ty la lb W1
  go_enter Try.func10, Try.ntmps10
  go_upto_region 1 with (fail)
  rw [← H0.out, ← H1.out]
  by_cases ht : ta = tb
  case neg =>
    have pt := int_beq_false ht
    have HT := Lib.hid ht
    clear ht
    go_wp2_with fail
    all_goals
      go_ret
      exact ⟨ret_bool (decide_eq_false (fun h => HT.out h.1)).symm, HBEL.out⟩
  case pos =>
    have pt := int_beq_true ht
    have HT := Lib.hid ht
    clear ht
    obtain ⟨mx, hmxe⟩ : ∃ m, m = maxS la lb := ⟨_, rfl⟩
    have HMX := Lib.hid hmxe

    rw [← hmxe] at hmx
    clear hmxe
    cases wa <;> cases wb
    case false.false =>
      go_wp2_with fail
      go_ret
      exact ⟨ret_bool (decide_eq_false (fun h => by rcases h.2.1 with h | h <;> cases h)).symm, HBEL.out⟩
    case false.true =>
      go_wp2_with fail
      refine (below_any mx ⟨ta, la, ha, false⟩ W1).mono ?_
      rintro e w2 ⟨rfl, hb2⟩
      have y0 := pw_cell_below hb2 y0
      have y1 := pw_cell_below hb2 y1
      have y2 := pw_cell_below hb2 y2
      have y3 := pw_cell_below hb2 y3
      have HB2 := Aside0.mk (below_then HBEL.out HBEL.out.size hb2)
      clear hb2
      by_cases hu : Under mx ha
      · rw [decide_eq_true (show Under mx (Lk.hi ⟨ta, la, ha, false⟩) from hu)]
        go_wp2_with fail
        refine (below_any mx ⟨tb, lb, hb, true⟩ w2).mono ?_
        rintro e w3 ⟨rfl, hb3⟩
        have HB3 := Aside0.mk (below_then HB2.out HB2.out.size hb3)
        clear hb3
        go_wp2_with fail
        go_ret
        refine ⟨ret_bool ?_, HB3.out⟩
        exact decide_eq_decide.2 ⟨fun h => ⟨HT.out, .inr rfl, by rw [← HMX.out]; exact hu, by rw [← HMX.out]; exact h⟩, fun h => by have := h.2.2.2; rw [← HMX.out] at this; exact this⟩
      · rw [decide_eq_false (show ¬ Under mx (Lk.hi ⟨ta, la, ha, false⟩) from hu)]
        go_wp2_with fail
        go_ret
        exact ⟨ret_bool (decide_eq_false (fun h => hu (by have := h.2.2.1; rw [← HMX.out] at this; exact this))).symm, HB2.out⟩
    case true.false =>
      go_wp2_with fail
      refine (below_any mx ⟨ta, la, ha, true⟩ W1).mono ?_
      rintro e w2 ⟨rfl, hb2⟩
      have y0 := pw_cell_below hb2 y0
      have y1 := pw_cell_below hb2 y1
      have y2 := pw_cell_below hb2 y2
      have y3 := pw_cell_below hb2 y3
      have HB2 := Aside0.mk (below_then HBEL.out HBEL.out.size hb2)
      clear hb2
      by_cases hu : Under mx ha
      · rw [decide_eq_true (show Under mx (Lk.hi ⟨ta, la, ha, true⟩) from hu)]
        go_wp2_with fail
        refine (below_any mx ⟨tb, lb, hb, false⟩ w2).mono ?_
        rintro e w3 ⟨rfl, hb3⟩
        have HB3 := Aside0.mk (below_then HB2.out HB2.out.size hb3)
        clear hb3
        go_wp2_with fail
        go_ret
        refine ⟨ret_bool ?_, HB3.out⟩
        exact decide_eq_decide.2 ⟨fun h => ⟨HT.out, .inl rfl, by rw [← HMX.out]; exact hu, by rw [← HMX.out]; exact h⟩, fun h => by have := h.2.2.2; rw [← HMX.out] at this; exact this⟩
      · rw [decide_eq_false (show ¬ Under mx (Lk.hi ⟨ta, la, ha, true⟩) from hu)]
        go_wp2_with fail
        go_ret
        exact ⟨ret_bool (decide_eq_false (fun h => hu (by have := h.2.2.1; rw [← HMX.out] at this; exact this))).symm, HB2.out⟩
    case true.true =>
      go_wp2_with fail
      refine (below_any mx ⟨ta, la, ha, true⟩ W1).mono ?_
      rintro e w2 ⟨rfl, hb2⟩
      have y0 := pw_cell_below hb2 y0
      have y1 := pw_cell_below hb2 y1
      have y2 := pw_cell_below hb2 y2
      have y3 := pw_cell_below hb2 y3
      have HB2 := Aside0.mk (below_then HBEL.out HBEL.out.size hb2)
      clear hb2
      by_cases hu : Under mx ha
      · rw [decide_eq_true (show Under mx (Lk.hi ⟨ta, la, ha, true⟩) from hu)]
        go_wp2_with fail
        refine (below_any mx ⟨tb, lb, hb, true⟩ w2).mono ?_
        rintro e w3 ⟨rfl, hb3⟩
        have HB3 := Aside0.mk (below_then HB2.out HB2.out.size hb3)
        clear hb3
        go_wp2_with fail
        go_ret
        refine ⟨ret_bool ?_, HB3.out⟩
        exact decide_eq_decide.2 ⟨fun h => ⟨HT.out, .inl rfl, by rw [← HMX.out]; exact hu, by rw [← HMX.out]; exact h⟩, fun h => by have := h.2.2.2; rw [← HMX.out] at this; exact this⟩
      · rw [decide_eq_false (show ¬ Under mx (Lk.hi ⟨ta, la, ha, true⟩) from hu)]
        go_wp2_with fail
        go_ret
        exact ⟨ret_bool (decide_eq_false (fun h => hu (by have := h.2.2.1; rw [← HMX.out] at this; exact this))).symm, HB2.out⟩
end Go.Proofs.Ytajblhainchplaa
