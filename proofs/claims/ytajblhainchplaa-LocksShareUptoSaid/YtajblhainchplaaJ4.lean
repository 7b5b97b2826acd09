/- Layer 19: the walks of the reference's Meet, Conflict. -/
import Derived.Test.YtajblhainchplaaJ3
set_option linter.unusedVariables false
set_option linter.unusedSimpArgs false
namespace Go.Proofs.Ytajblhainchplaa
open Go.RowKit Go.Proofs.YtajblhainchplaaW.PrintWords Go.Proofs.YtajblhainchplaaW.PrintLast
theorem sl_t {a b : ByteArray} (h : Slt a b) : Op.bytesLess a.toList b.toList = true := h
theorem sl_f {a b : ByteArray} (h : ¬ Slt a b) : Op.bytesLess a.toList b.toList = false := by unfold Slt at h; simpa using h
set_option maxRecDepth 100000 in
set_option maxHeartbeats 2000000 in
theorem meet_any (a b : Lk) (w : World) : Calls Try.prog 30 #[.agg #[.int .i64 a.table, .string a.lo, .string a.hi, .bool a.write], .agg #[.int .i64 b.table, .string b.lo, .string b.hi, .bool b.write]] w fun e w' => e = .returned (.bool (decide (Meet a b))) ∧ Below w.heap.size w w' := by
  obtain ⟨ta, la, ha, wa⟩ := a
  obtain ⟨tb, lb, hb, wb⟩ := b
  dsimp only
  obtain ⟨W0, h0, b0, s0, B0⟩ := grow (W := w) rfl #[.int .i64 ta, .string la, .string ha, .bool wa] 23
  obtain ⟨W1, h1, b1, s1, B1⟩ := grow s0 #[.int .i64 tb, .string lb, .string hb, .bool wb] 23
  have HBEL := Aside0.mk (below_then B0 B0.size B1)
  have C0 := Aside0.mk (blk_below b0 B1)
  have C1 := Aside0.mk b1
  have x0 : W1.cell? ⟨w.heap.size, 0, none⟩ = some (.int .i64 ta) := blk_cell C0.out 0
  have x1 : W1.cell? ⟨w.heap.size, 1, none⟩ = some (.string la) := blk_cell C0.out 1
  have x2 : W1.cell? ⟨w.heap.size, 2, none⟩ = some (.string ha) := blk_cell C0.out 2
  have x3 : W1.cell? ⟨w.heap.size, 3, none⟩ = some (.bool wa) := blk_cell C0.out 3
  have y0 : W1.cell? ⟨w.heap.size + 1, 0, none⟩ = some (.int .i64 tb) := blk_cell C1.out 0
  have y1 : W1.cell? ⟨w.heap.size + 1, 1, none⟩ = some (.string lb) := blk_cell C1.out 1
  have y2 : W1.cell? ⟨w.heap.size + 1, 2, none⟩ = some (.string hb) := blk_cell C1.out 2
  have y3 : W1.cell? ⟨w.heap.size + 1, 3, none⟩ = some (.bool wb) := blk_cell C1.out 3
  have H0 := Lib.hid h0
  have H1 := Lib.hid h1
  clear h0 h1 b0 b1 s0 s1 B0 B1
  go_enter Try.func30, Try.ntmps30
  go_upto_region 1 with (fail)
  rw [← H0.out, ← H1.out]
  rcases slt_tri la lb with hs | hs | hs
  · have hmx := Lib.hid (show maxS la lb = lb from if_pos hs)
    have f1 : Op.bytesLess lb.toList la.toList = false := sl_f (slt_asymm hs)
    have f2 : (lb.toList == la.toList) = false := str_eq_false (fun he => slt_irr la (by rw [he] at hs; exact hs))
    clear hs
    by_cases ht : ta = tb
    case neg =>
      have pt := int_beq_false ht
      have HT := Lib.hid ht
      clear ht
      go_wp2_with fail
      all_goals
        go_ret
        exact ⟨ret_bool (decide_eq_false (fun h => HT.out h.1)).symm, HBEL.out⟩
    have pt := int_beq_true ht
    have HT := Lib.hid ht
    clear ht
    cases wa <;> cases wb
    case false.false =>
      go_wp2_with fail
      go_ret
      first | exact ⟨ret_bool (decide_eq_false (fun h => by rcases h.2.1 with h | h <;> cases h)).symm, HBEL.out⟩ | exact ⟨ret_bool ((isEmpty_no eb).trans (decide_eq_false (fun h => by rcases h.2.1 with h | h <;> cases h)).symm), HBEL.out⟩ | exact ⟨ret_bool ((isEmpty_no ea).trans (decide_eq_false (fun h => by rcases h.2.1 with h | h <;> cases h)).symm), HBEL.out⟩
    case false.true =>
      by_cases ea : ha.toList = []
      case pos =>
        by_cases eb : hb.toList = []
        case pos =>
          go_wp2_with fail
          go_ret
          exact ⟨ret_bool (decide_eq_true ⟨HT.out, .inr rfl, by dsimp only; rw [hmx.out]; exact ⟨.inl ea, .inl eb⟩⟩).symm, HBEL.out⟩
        by_cases ub : Slt lb hb
        case pos =>
          have fb := sl_t ub
          have UB := Lib.hid ub
          clear ub
          go_wp2_with fail
          go_ret
          exact ⟨ret_bool (decide_eq_true ⟨HT.out, .inr rfl, by dsimp only; rw [hmx.out]; exact ⟨.inl ea, .inr UB.out⟩⟩).symm, HBEL.out⟩
        have fb := sl_f ub
        have UB := Lib.hid ub
        clear ub
        go_wp2_with fail
        go_ret
        first | exact ⟨ret_bool (decide_eq_false (fun h => by have h2 := h.2.2.2; dsimp only at h2; rw [hmx.out] at h2; exact h2.elim (fun h => absurd h eb) (fun h => UB.out h))).symm, HBEL.out⟩ | exact ⟨ret_bool ((isEmpty_no eb).trans (decide_eq_false (fun h => by have h2 := h.2.2.2; dsimp only at h2; rw [hmx.out] at h2; exact h2.elim (fun h => absurd h eb) (fun h => UB.out h))).symm), HBEL.out⟩ | exact ⟨ret_bool ((isEmpty_no ea).trans (decide_eq_false (fun h => by have h2 := h.2.2.2; dsimp only at h2; rw [hmx.out] at h2; exact h2.elim (fun h => absurd h eb) (fun h => UB.out h))).symm), HBEL.out⟩
      by_cases ua : Slt lb ha
      case pos =>
        have fa := sl_t ua
        have UA := Lib.hid ua
        clear ua
        by_cases eb : hb.toList = []
        case pos =>
          go_wp2_with fail
          go_ret
          exact ⟨ret_bool (decide_eq_true ⟨HT.out, .inr rfl, by dsimp only; rw [hmx.out]; exact ⟨.inr UA.out, .inl eb⟩⟩).symm, HBEL.out⟩
        by_cases ub : Slt lb hb
        case pos =>
          have fb := sl_t ub
          have UB := Lib.hid ub
          clear ub
          go_wp2_with fail
          go_ret
          exact ⟨ret_bool (decide_eq_true ⟨HT.out, .inr rfl, by dsimp only; rw [hmx.out]; exact ⟨.inr UA.out, .inr UB.out⟩⟩).symm, HBEL.out⟩
        have fb := sl_f ub
        have UB := Lib.hid ub
        clear ub
        go_wp2_with fail
        go_ret
        first | exact ⟨ret_bool (decide_eq_false (fun h => by have h2 := h.2.2.2; dsimp only at h2; rw [hmx.out] at h2; exact h2.elim (fun h => absurd h eb) (fun h => UB.out h))).symm, HBEL.out⟩ | exact ⟨ret_bool ((isEmpty_no eb).trans (decide_eq_false (fun h => by have h2 := h.2.2.2; dsimp only at h2; rw [hmx.out] at h2; exact h2.elim (fun h => absurd h eb) (fun h => UB.out h))).symm), HBEL.out⟩ | exact ⟨ret_bool ((isEmpty_no ea).trans (decide_eq_false (fun h => by have h2 := h.2.2.2; dsimp only at h2; rw [hmx.out] at h2; exact h2.elim (fun h => absurd h eb) (fun h => UB.out h))).symm), HBEL.out⟩
      have fa := sl_f ua
      have UA := Lib.hid ua
      clear ua
      go_wp2_with fail
      go_ret
      first | exact ⟨ret_bool (decide_eq_false (fun h => by have h2 := h.2.2.1; dsimp only at h2; rw [hmx.out] at h2; exact h2.elim (fun h => absurd h ea) (fun h => UA.out h))).symm, HBEL.out⟩ | exact ⟨ret_bool ((isEmpty_no eb).trans (decide_eq_false (fun h => by have h2 := h.2.2.1; dsimp only at h2; rw [hmx.out] at h2; exact h2.elim (fun h => absurd h ea) (fun h => UA.out h))).symm), HBEL.out⟩ | exact ⟨ret_bool ((isEmpty_no ea).trans (decide_eq_false (fun h => by have h2 := h.2.2.1; dsimp only at h2; rw [hmx.out] at h2; exact h2.elim (fun h => absurd h ea) (fun h => UA.out h))).symm), HBEL.out⟩
    case true.false =>
      by_cases ea : ha.toList = []
      case pos =>
        by_cases eb : hb.toList = []
        case pos =>
          go_wp2_with fail
          go_ret
          exact ⟨ret_bool (decide_eq_true ⟨HT.out, .inl rfl, by dsimp only; rw [hmx.out]; exact ⟨.inl ea, .inl eb⟩⟩).symm, HBEL.out⟩
        by_cases ub : Slt lb hb
        case pos =>
          have fb := sl_t ub
          have UB := Lib.hid ub
          clear ub
          go_wp2_with fail
          go_ret
          exact ⟨ret_bool (decide_eq_true ⟨HT.out, .inl rfl, by dsimp only; rw [hmx.out]; exact ⟨.inl ea, .inr UB.out⟩⟩).symm, HBEL.out⟩
        have fb := sl_f ub
        have UB := Lib.hid ub
        clear ub
        go_wp2_with fail
        go_ret
        first | exact ⟨ret_bool (decide_eq_false (fun h => by have h2 := h.2.2.2; dsimp only at h2; rw [hmx.out] at h2; exact h2.elim (fun h => absurd h eb) (fun h => UB.out h))).symm, HBEL.out⟩ | exact ⟨ret_bool ((isEmpty_no eb).trans (decide_eq_false (fun h => by have h2 := h.2.2.2; dsimp only at h2; rw [hmx.out] at h2; exact h2.elim (fun h => absurd h eb) (fun h => UB.out h))).symm), HBEL.out⟩ | exact ⟨ret_bool ((isEmpty_no ea).trans (decide_eq_false (fun h => by have h2 := h.2.2.2; dsimp only at h2; rw [hmx.out] at h2; exact h2.elim (fun h => absurd h eb) (fun h => UB.out h))).symm), HBEL.out⟩
      by_cases ua : Slt lb ha
      case pos =>
        have fa := sl_t ua
        have UA := Lib.hid ua
        clear ua
        by_cases eb : hb.toList = []
        case pos =>
          go_wp2_with fail
          go_ret
          exact ⟨ret_bool (decide_eq_true ⟨HT.out, .inl rfl, by dsimp only; rw [hmx.out]; exact ⟨.inr UA.out, .inl eb⟩⟩).symm, HBEL.out⟩
        by_cases ub : Slt lb hb
        case pos =>
          have fb := sl_t ub
          have UB := Lib.hid ub
          clear ub
          go_wp2_with fail
          go_ret
          exact ⟨ret_bool (decide_eq_true ⟨HT.out, .inl rfl, by dsimp only; rw [hmx.out]; exact ⟨.inr UA.out, .inr UB.out⟩⟩).symm, HBEL.out⟩
        have fb := sl_f ub
        have UB := Lib.hid ub
        clear ub
        go_wp2_with fail
        go_ret
        first | exact ⟨ret_bool (decide_eq_false (fun h => by have h2 := h.2.2.2; dsimp only at h2; rw [hmx.out] at h2; exact h2.elim (fun h => absurd h eb) (fun h => UB.out h))).symm, HBEL.out⟩ | exact ⟨ret_bool ((isEmpty_no eb).trans (decide_eq_false (fun h => by have h2 := h.2.2.2; dsimp only at h2; rw [hmx.out] at h2; exact h2.elim (fun h => absurd h eb) (fun h => UB.out h))).symm), HBEL.out⟩ | exact ⟨ret_bool ((isEmpty_no ea).trans (decide_eq_false (fun h => by have h2 := h.2.2.2; dsimp only at h2; rw [hmx.out] at h2; exact h2.elim (fun h => absurd h eb) (fun h => UB.out h))).symm), HBEL.out⟩
      have fa := sl_f ua
      have UA := Lib.hid ua
      clear ua
      go_wp2_with fail
      go_ret
      first | exact ⟨ret_bool (decide_eq_false (fun h => by have h2 := h.2.2.1; dsimp only at h2; rw [hmx.out] at h2; exact h2.elim (fun h => absurd h ea) (fun h => UA.out h))).symm, HBEL.out⟩ | exact ⟨ret_bool ((isEmpty_no eb).trans (decide_eq_false (fun h => by have h2 := h.2.2.1; dsimp only at h2; rw [hmx.out] at h2; exact h2.elim (fun h => absurd h ea) (fun h => UA.out h))).symm), HBEL.out⟩ | exact ⟨ret_bool ((isEmpty_no ea).trans (decide_eq_false (fun h => by have h2 := h.2.2.1; dsimp only at h2; rw [hmx.out] at h2; exact h2.elim (fun h => absurd h ea) (fun h => UA.out h))).symm), HBEL.out⟩
    case true.true =>
      by_cases ea : ha.toList = []
      case pos =>
        by_cases eb : hb.toList = []
        case pos =>
          go_wp2_with fail
          go_ret
          exact ⟨ret_bool (decide_eq_true ⟨HT.out, .inl rfl, by dsimp only; rw [hmx.out]; exact ⟨.inl ea, .inl eb⟩⟩).symm, HBEL.out⟩
        by_cases ub : Slt lb hb
        case pos =>
          have fb := sl_t ub
          have UB := Lib.hid ub
          clear ub
          go_wp2_with fail
          go_ret
          exact ⟨ret_bool (decide_eq_true ⟨HT.out, .inl rfl, by dsimp only; rw [hmx.out]; exact ⟨.inl ea, .inr UB.out⟩⟩).symm, HBEL.out⟩
        have fb := sl_f ub
        have UB := Lib.hid ub
        clear ub
        go_wp2_with fail
        go_ret
        first | exact ⟨ret_bool (decide_eq_false (fun h => by have h2 := h.2.2.2; dsimp only at h2; rw [hmx.out] at h2; exact h2.elim (fun h => absurd h eb) (fun h => UB.out h))).symm, HBEL.out⟩ | exact ⟨ret_bool ((isEmpty_no eb).trans (decide_eq_false (fun h => by have h2 := h.2.2.2; dsimp only at h2; rw [hmx.out] at h2; exact h2.elim (fun h => absurd h eb) (fun h => UB.out h))).symm), HBEL.out⟩ | exact ⟨ret_bool ((isEmpty_no ea).trans (decide_eq_false (fun h => by have h2 := h.2.2.2; dsimp only at h2; rw [hmx.out] at h2; exact h2.elim (fun h => absurd h eb) (fun h => UB.out h))).symm), HBEL.out⟩
      by_cases ua : Slt lb ha
      case pos =>
        have fa := sl_t ua
        have UA := Lib.hid ua
        clear ua
        by_cases eb : hb.toList = []
        case pos =>
          go_wp2_with fail
          go_ret
          exact ⟨ret_bool (decide_eq_true ⟨HT.out, .inl rfl, by dsimp only; rw [hmx.out]; exact ⟨.inr UA.out, .inl eb⟩⟩).symm, HBEL.out⟩
        by_cases ub : Slt lb hb
        case pos =>
          have fb := sl_t ub
          have UB := Lib.hid ub
          clear ub
          go_wp2_with fail
          go_ret
          exact ⟨ret_bool (decide_eq_true ⟨HT.out, .inl rfl, by dsimp only; rw [hmx.out]; exact ⟨.inr UA.out, .inr UB.out⟩⟩).symm, HBEL.out⟩
        have fb := sl_f ub
        have UB := Lib.hid ub
        clear ub
        go_wp2_with fail
        go_ret
        first | exact ⟨ret_bool (decide_eq_false (fun h => by have h2 := h.2.2.2; dsimp only at h2; rw [hmx.out] at h2; exact h2.elim (fun h => absurd h eb) (fun h => UB.out h))).symm, HBEL.out⟩ | exact ⟨ret_bool ((isEmpty_no eb).trans (decide_eq_false (fun h => by have h2 := h.2.2.2; dsimp only at h2; rw [hmx.out] at h2; exact h2.elim (fun h => absurd h eb) (fun h => UB.out h))).symm), HBEL.out⟩ | exact ⟨ret_bool ((isEmpty_no ea).trans (decide_eq_false (fun h => by have h2 := h.2.2.2; dsimp only at h2; rw [hmx.out] at h2; exact h2.elim (fun h => absurd h eb) (fun h => UB.out h))).symm), HBEL.out⟩
      have fa := sl_f ua
      have UA := Lib.hid ua
      clear ua
      go_wp2_with fail
      go_ret
      first | exact ⟨ret_bool (decide_eq_false (fun h => by have h2 := h.2.2.1; dsimp only at h2; rw [hmx.out] at h2; exact h2.elim (fun h => absurd h ea) (fun h => UA.out h))).symm, HBEL.out⟩ | exact ⟨ret_bool ((isEmpty_no eb).trans (decide_eq_false (fun h => by have h2 := h.2.2.1; dsimp only at h2; rw [hmx.out] at h2; exact h2.elim (fun h => absurd h ea) (fun h => UA.out h))).symm), HBEL.out⟩ | exact ⟨ret_bool ((isEmpty_no ea).trans (decide_eq_false (fun h => by have h2 := h.2.2.1; dsimp only at h2; rw [hmx.out] at h2; exact h2.elim (fun h => absurd h ea) (fun h => UA.out h))).symm), HBEL.out⟩
  · subst hs
    have hmx := Lib.hid (maxS_self la)
    have f1 : Op.bytesLess la.toList la.toList = false := bl_irr _
    by_cases ht : ta = tb
    case neg =>
      have pt := int_beq_false ht
      have HT := Lib.hid ht
      clear ht
      go_wp2_with fail
      all_goals
        go_ret
        exact ⟨ret_bool (decide_eq_false (fun h => HT.out h.1)).symm, HBEL.out⟩
    have pt := int_beq_true ht
    have HT := Lib.hid ht
    clear ht
    cases wa <;> cases wb
    case false.false =>
      go_wp2_with fail
      go_ret
      first | exact ⟨ret_bool (decide_eq_false (fun h => by rcases h.2.1 with h | h <;> cases h)).symm, HBEL.out⟩ | exact ⟨ret_bool ((isEmpty_no eb).trans (decide_eq_false (fun h => by rcases h.2.1 with h | h <;> cases h)).symm), HBEL.out⟩ | exact ⟨ret_bool ((isEmpty_no ea).trans (decide_eq_false (fun h => by rcases h.2.1 with h | h <;> cases h)).symm), HBEL.out⟩
    case false.true =>
      by_cases ea : ha.toList = []
      case pos =>
        by_cases eb : hb.toList = []
        case pos =>
          go_wp2_with fail
          go_ret
          exact ⟨ret_bool (decide_eq_true ⟨HT.out, .inr rfl, by dsimp only; rw [hmx.out]; exact ⟨.inl ea, .inl eb⟩⟩).symm, HBEL.out⟩
        by_cases ub : Slt la hb
        case pos =>
          have fb := sl_t ub
          have UB := Lib.hid ub
          clear ub
          go_wp2_with fail
          go_ret
          exact ⟨ret_bool (decide_eq_true ⟨HT.out, .inr rfl, by dsimp only; rw [hmx.out]; exact ⟨.inl ea, .inr UB.out⟩⟩).symm, HBEL.out⟩
        have fb := sl_f ub
        have UB := Lib.hid ub
        clear ub
        go_wp2_with fail
        go_ret
        first | exact ⟨ret_bool (decide_eq_false (fun h => by have h2 := h.2.2.2; dsimp only at h2; rw [hmx.out] at h2; exact h2.elim (fun h => absurd h eb) (fun h => UB.out h))).symm, HBEL.out⟩ | exact ⟨ret_bool ((isEmpty_no eb).trans (decide_eq_false (fun h => by have h2 := h.2.2.2; dsimp only at h2; rw [hmx.out] at h2; exact h2.elim (fun h => absurd h eb) (fun h => UB.out h))).symm), HBEL.out⟩ | exact ⟨ret_bool ((isEmpty_no ea).trans (decide_eq_false (fun h => by have h2 := h.2.2.2; dsimp only at h2; rw [hmx.out] at h2; exact h2.elim (fun h => absurd h eb) (fun h => UB.out h))).symm), HBEL.out⟩
      by_cases ua : Slt la ha
      case pos =>
        have fa := sl_t ua
        have UA := Lib.hid ua
        clear ua
        by_cases eb : hb.toList = []
        case pos =>
          go_wp2_with fail
          go_ret
          exact ⟨ret_bool (decide_eq_true ⟨HT.out, .inr rfl, by dsimp only; rw [hmx.out]; exact ⟨.inr UA.out, .inl eb⟩⟩).symm, HBEL.out⟩
        by_cases ub : Slt la hb
        case pos =>
          have fb := sl_t ub
          have UB := Lib.hid ub
          clear ub
          go_wp2_with fail
          go_ret
          exact ⟨ret_bool (decide_eq_true ⟨HT.out, .inr rfl, by dsimp only; rw [hmx.out]; exact ⟨.inr UA.out, .inr UB.out⟩⟩).symm, HBEL.out⟩
        have fb := sl_f ub
        have UB := Lib.hid ub
        clear ub
        go_wp2_with fail
        go_ret
        first | exact ⟨ret_bool (decide_eq_false (fun h => by have h2 := h.2.2.2; dsimp only at h2; rw [hmx.out] at h2; exact h2.elim (fun h => absurd h eb) (fun h => UB.out h))).symm, HBEL.out⟩ | exact ⟨ret_bool ((isEmpty_no eb).trans (decide_eq_false (fun h => by have h2 := h.2.2.2; dsimp only at h2; rw [hmx.out] at h2; exact h2.elim (fun h => absurd h eb) (fun h => UB.out h))).symm), HBEL.out⟩ | exact ⟨ret_bool ((isEmpty_no ea).trans (decide_eq_false (fun h => by have h2 := h.2.2.2; dsimp only at h2; rw [hmx.out] at h2; exact h2.elim (fun h => absurd h eb) (fun h => UB.out h))).symm), HBEL.out⟩
      have fa := sl_f ua
      have UA := Lib.hid ua
      clear ua
      go_wp2_with fail
      go_ret
      first | exact ⟨ret_bool (decide_eq_false (fun h => by have h2 := h.2.2.1; dsimp only at h2; rw [hmx.out] at h2; exact h2.elim (fun h => absurd h ea) (fun h => UA.out h))).symm, HBEL.out⟩ | exact ⟨ret_bool ((isEmpty_no eb).trans (decide_eq_false (fun h => by have h2 := h.2.2.1; dsimp only at h2; rw [hmx.out] at h2; exact h2.elim (fun h => absurd h ea) (fun h => UA.out h))).symm), HBEL.out⟩ | exact ⟨ret_bool ((isEmpty_no ea).trans (decide_eq_false (fun h => by have h2 := h.2.2.1; dsimp only at h2; rw [hmx.out] at h2; exact h2.elim (fun h => absurd h ea) (fun h => UA.out h))).symm), HBEL.out⟩
    case true.false =>
      by_cases ea : ha.toList = []
      case pos =>
        by_cases eb : hb.toList = []
        case pos =>
          go_wp2_with fail
          go_ret
          exact ⟨ret_bool (decide_eq_true ⟨HT.out, .inl rfl, by dsimp only; rw [hmx.out]; exact ⟨.inl ea, .inl eb⟩⟩).symm, HBEL.out⟩
        by_cases ub : Slt la hb
        case pos =>
          have fb := sl_t ub
          have UB := Lib.hid ub
          clear ub
          go_wp2_with fail
          go_ret
          exact ⟨ret_bool (decide_eq_true ⟨HT.out, .inl rfl, by dsimp only; rw [hmx.out]; exact ⟨.inl ea, .inr UB.out⟩⟩).symm, HBEL.out⟩
        have fb := sl_f ub
        have UB := Lib.hid ub
        clear ub
        go_wp2_with fail
        go_ret
        first | exact ⟨ret_bool (decide_eq_false (fun h => by have h2 := h.2.2.2; dsimp only at h2; rw [hmx.out] at h2; exact h2.elim (fun h => absurd h eb) (fun h => UB.out h))).symm, HBEL.out⟩ | exact ⟨ret_bool ((isEmpty_no eb).trans (decide_eq_false (fun h => by have h2 := h.2.2.2; dsimp only at h2; rw [hmx.out] at h2; exact h2.elim (fun h => absurd h eb) (fun h => UB.out h))).symm), HBEL.out⟩ | exact ⟨ret_bool ((isEmpty_no ea).trans (decide_eq_false (fun h => by have h2 := h.2.2.2; dsimp only at h2; rw [hmx.out] at h2; exact h2.elim (fun h => absurd h eb) (fun h => UB.out h))).symm), HBEL.out⟩
      by_cases ua : Slt la ha
      case pos =>
        have fa := sl_t ua
        have UA := Lib.hid ua
        clear ua
        by_cases eb : hb.toList = []
        case pos =>
          go_wp2_with fail
          go_ret
          exact ⟨ret_bool (decide_eq_true ⟨HT.out, .inl rfl, by dsimp only; rw [hmx.out]; exact ⟨.inr UA.out, .inl eb⟩⟩).symm, HBEL.out⟩
        by_cases ub : Slt la hb
        case pos =>
          have fb := sl_t ub
          have UB := Lib.hid ub
          clear ub
          go_wp2_with fail
          go_ret
          exact ⟨ret_bool (decide_eq_true ⟨HT.out, .inl rfl, by dsimp only; rw [hmx.out]; exact ⟨.inr UA.out, .inr UB.out⟩⟩).symm, HBEL.out⟩
        have fb := sl_f ub
        have UB := Lib.hid ub
        clear ub
        go_wp2_with fail
        go_ret
        first | exact ⟨ret_bool (decide_eq_false (fun h => by have h2 := h.2.2.2; dsimp only at h2; rw [hmx.out] at h2; exact h2.elim (fun h => absurd h eb) (fun h => UB.out h))).symm, HBEL.out⟩ | exact ⟨ret_bool ((isEmpty_no eb).trans (decide_eq_false (fun h => by have h2 := h.2.2.2; dsimp only at h2; rw [hmx.out] at h2; exact h2.elim (fun h => absurd h eb) (fun h => UB.out h))).symm), HBEL.out⟩ | exact ⟨ret_bool ((isEmpty_no ea).trans (decide_eq_false (fun h => by have h2 := h.2.2.2; dsimp only at h2; rw [hmx.out] at h2; exact h2.elim (fun h => absurd h eb) (fun h => UB.out h))).symm), HBEL.out⟩
      have fa := sl_f ua
      have UA := Lib.hid ua
      clear ua
      go_wp2_with fail
      go_ret
      first | exact ⟨ret_bool (decide_eq_false (fun h => by have h2 := h.2.2.1; dsimp only at h2; rw [hmx.out] at h2; exact h2.elim (fun h => absurd h ea) (fun h => UA.out h))).symm, HBEL.out⟩ | exact ⟨ret_bool ((isEmpty_no eb).trans (decide_eq_false (fun h => by have h2 := h.2.2.1; dsimp only at h2; rw [hmx.out] at h2; exact h2.elim (fun h => absurd h ea) (fun h => UA.out h))).symm), HBEL.out⟩ | exact ⟨ret_bool ((isEmpty_no ea).trans (decide_eq_false (fun h => by have h2 := h.2.2.1; dsimp only at h2; rw [hmx.out] at h2; exact h2.elim (fun h => absurd h ea) (fun h => UA.out h))).symm), HBEL.out⟩
    case true.true =>
      by_cases ea : ha.toList = []
      case pos =>
        by_cases eb : hb.toList = []
        case pos =>
          go_wp2_with fail
          go_ret
          exact ⟨ret_bool (decide_eq_true ⟨HT.out, .inl rfl, by dsimp only; rw [hmx.out]; exact ⟨.inl ea, .inl eb⟩⟩).symm, HBEL.out⟩
        by_cases ub : Slt la hb
        case pos =>
          have fb := sl_t ub
          have UB := Lib.hid ub
          clear ub
          go_wp2_with fail
          go_ret
          exact ⟨ret_bool (decide_eq_true ⟨HT.out, .inl rfl, by dsimp only; rw [hmx.out]; exact ⟨.inl ea, .inr UB.out⟩⟩).symm, HBEL.out⟩
        have fb := sl_f ub
        have UB := Lib.hid ub
        clear ub
        go_wp2_with fail
        go_ret
        first | exact ⟨ret_bool (decide_eq_false (fun h => by have h2 := h.2.2.2; dsimp only at h2; rw [hmx.out] at h2; exact h2.elim (fun h => absurd h eb) (fun h => UB.out h))).symm, HBEL.out⟩ | exact ⟨ret_bool ((isEmpty_no eb).trans (decide_eq_false (fun h => by have h2 := h.2.2.2; dsimp only at h2; rw [hmx.out] at h2; exact h2.elim (fun h => absurd h eb) (fun h => UB.out h))).symm), HBEL.out⟩ | exact ⟨ret_bool ((isEmpty_no ea).trans (decide_eq_false (fun h => by have h2 := h.2.2.2; dsimp only at h2; rw [hmx.out] at h2; exact h2.elim (fun h => absurd h eb) (fun h => UB.out h))).symm), HBEL.out⟩
      by_cases ua : Slt la ha
      case pos =>
        have fa := sl_t ua
        have UA := Lib.hid ua
        clear ua
        by_cases eb : hb.toList = []
        case pos =>
          go_wp2_with fail
          go_ret
          exact ⟨ret_bool (decide_eq_true ⟨HT.out, .inl rfl, by dsimp only; rw [hmx.out]; exact ⟨.inr UA.out, .inl eb⟩⟩).symm, HBEL.out⟩
        by_cases ub : Slt la hb
        case pos =>
          have fb := sl_t ub
          have UB := Lib.hid ub
          clear ub
          go_wp2_with fail
          go_ret
          exact ⟨ret_bool (decide_eq_true ⟨HT.out, .inl rfl, by dsimp only; rw [hmx.out]; exact ⟨.inr UA.out, .inr UB.out⟩⟩).symm, HBEL.out⟩
        have fb := sl_f ub
        have UB := Lib.hid ub
        clear ub
        go_wp2_with fail
        go_ret
        first | exact ⟨ret_bool (decide_eq_false (fun h => by have h2 := h.2.2.2; dsimp only at h2; rw [hmx.out] at h2; exact h2.elim (fun h => absurd h eb) (fun h => UB.out h))).symm, HBEL.out⟩ | exact ⟨ret_bool ((isEmpty_no eb).trans (decide_eq_false (fun h => by have h2 := h.2.2.2; dsimp only at h2; rw [hmx.out] at h2; exact h2.elim (fun h => absurd h eb) (fun h => UB.out h))).symm), HBEL.out⟩ | exact ⟨ret_bool ((isEmpty_no ea).trans (decide_eq_false (fun h => by have h2 := h.2.2.2; dsimp only at h2; rw [hmx.out] at h2; exact h2.elim (fun h => absurd h eb) (fun h => UB.out h))).symm), HBEL.out⟩
      have fa := sl_f ua
      have UA := Lib.hid ua
      clear ua
      go_wp2_with fail
      go_ret
      first | exact ⟨ret_bool (decide_eq_false (fun h => by have h2 := h.2.2.1; dsimp only at h2; rw [hmx.out] at h2; exact h2.elim (fun h => absurd h ea) (fun h => UA.out h))).symm, HBEL.out⟩ | exact ⟨ret_bool ((isEmpty_no eb).trans (decide_eq_false (fun h => by have h2 := h.2.2.1; dsimp only at h2; rw [hmx.out] at h2; exact h2.elim (fun h => absurd h ea) (fun h => UA.out h))).symm), HBEL.out⟩ | exact ⟨ret_bool ((isEmpty_no ea).trans (decide_eq_false (fun h => by have h2 := h.2.2.1; dsimp only at h2; rw [hmx.out] at h2; exact h2.elim (fun h => absurd h ea) (fun h => UA.out h))).symm), HBEL.out⟩
  · have hmx := Lib.hid (show maxS la lb = la from if_neg (slt_asymm hs))
    have f1 : Op.bytesLess lb.toList la.toList = true := hs
    clear hs
    by_cases ht : ta = tb
    case neg =>
      have pt := int_beq_false ht
      have HT := Lib.hid ht
      clear ht
      go_wp2_with fail
      all_goals
        go_ret
        exact ⟨ret_bool (decide_eq_false (fun h => HT.out h.1)).symm, HBEL.out⟩
    have pt := int_beq_true ht
    have HT := Lib.hid ht
    clear ht
    cases wa <;> cases wb
    case false.false =>
      go_wp2_with fail
      go_ret
      first | exact ⟨ret_bool (decide_eq_false (fun h => by rcases h.2.1 with h | h <;> cases h)).symm, HBEL.out⟩ | exact ⟨ret_bool ((isEmpty_no eb).trans (decide_eq_false (fun h => by rcases h.2.1 with h | h <;> cases h)).symm), HBEL.out⟩ | exact ⟨ret_bool ((isEmpty_no ea).trans (decide_eq_false (fun h => by rcases h.2.1 with h | h <;> cases h)).symm), HBEL.out⟩
    case false.true =>
      by_cases ea : ha.toList = []
      case pos =>
        by_cases eb : hb.toList = []
        case pos =>
          go_wp2_with fail
          go_ret
          exact ⟨ret_bool (decide_eq_true ⟨HT.out, .inr rfl, by dsimp only; rw [hmx.out]; exact ⟨.inl ea, .inl eb⟩⟩).symm, HBEL.out⟩
        by_cases ub : Slt la hb
        case pos =>
          have fb := sl_t ub
          have UB := Lib.hid ub
          clear ub
          go_wp2_with fail
          go_ret
          exact ⟨ret_bool (decide_eq_true ⟨HT.out, .inr rfl, by dsimp only; rw [hmx.out]; exact ⟨.inl ea, .inr UB.out⟩⟩).symm, HBEL.out⟩
        have fb := sl_f ub
        have UB := Lib.hid ub
        clear ub
        go_wp2_with fail
        go_ret
        first | exact ⟨ret_bool (decide_eq_false (fun h => by have h2 := h.2.2.2; dsimp only at h2; rw [hmx.out] at h2; exact h2.elim (fun h => absurd h eb) (fun h => UB.out h))).symm, HBEL.out⟩ | exact ⟨ret_bool ((isEmpty_no eb).trans (decide_eq_false (fun h => by have h2 := h.2.2.2; dsimp only at h2; rw [hmx.out] at h2; exact h2.elim (fun h => absurd h eb) (fun h => UB.out h))).symm), HBEL.out⟩ | exact ⟨ret_bool ((isEmpty_no ea).trans (decide_eq_false (fun h => by have h2 := h.2.2.2; dsimp only at h2; rw [hmx.out] at h2; exact h2.elim (fun h => absurd h eb) (fun h => UB.out h))).symm), HBEL.out⟩
      by_cases ua : Slt la ha
      case pos =>
        have fa := sl_t ua
        have UA := Lib.hid ua
        clear ua
        by_cases eb : hb.toList = []
        case pos =>
          go_wp2_with fail
          go_ret
          exact ⟨ret_bool (decide_eq_true ⟨HT.out, .inr rfl, by dsimp only; rw [hmx.out]; exact ⟨.inr UA.out, .inl eb⟩⟩).symm, HBEL.out⟩
        by_cases ub : Slt la hb
        case pos =>
          have fb := sl_t ub
          have UB := Lib.hid ub
          clear ub
          go_wp2_with fail
          go_ret
          exact ⟨ret_bool (decide_eq_true ⟨HT.out, .inr rfl, by dsimp only; rw [hmx.out]; exact ⟨.inr UA.out, .inr UB.out⟩⟩).symm, HBEL.out⟩
        have fb := sl_f ub
        have UB := Lib.hid ub
        clear ub
        go_wp2_with fail
        go_ret
        first | exact ⟨ret_bool (decide_eq_false (fun h => by have h2 := h.2.2.2; dsimp only at h2; rw [hmx.out] at h2; exact h2.elim (fun h => absurd h eb) (fun h => UB.out h))).symm, HBEL.out⟩ | exact ⟨ret_bool ((isEmpty_no eb).trans (decide_eq_false (fun h => by have h2 := h.2.2.2; dsimp only at h2; rw [hmx.out] at h2; exact h2.elim (fun h => absurd h eb) (fun h => UB.out h))).symm), HBEL.out⟩ | exact ⟨ret_bool ((isEmpty_no ea).trans (decide_eq_false (fun h => by have h2 := h.2.2.2; dsimp only at h2; rw [hmx.out] at h2; exact h2.elim (fun h => absurd h eb) (fun h => UB.out h))).symm), HBEL.out⟩
      have fa := sl_f ua
      have UA := Lib.hid ua
      clear ua
      go_wp2_with fail
      go_ret
      first | exact ⟨ret_bool (decide_eq_false (fun h => by have h2 := h.2.2.1; dsimp only at h2; rw [hmx.out] at h2; exact h2.elim (fun h => absurd h ea) (fun h => UA.out h))).symm, HBEL.out⟩ | exact ⟨ret_bool ((isEmpty_no eb).trans (decide_eq_false (fun h => by have h2 := h.2.2.1; dsimp only at h2; rw [hmx.out] at h2; exact h2.elim (fun h => absurd h ea) (fun h => UA.out h))).symm), HBEL.out⟩ | exact ⟨ret_bool ((isEmpty_no ea).trans (decide_eq_false (fun h => by have h2 := h.2.2.1; dsimp only at h2; rw [hmx.out] at h2; exact h2.elim (fun h => absurd h ea) (fun h => UA.out h))).symm), HBEL.out⟩
    case true.false =>
      by_cases ea : ha.toList = []
      case pos =>
        by_cases eb : hb.toList = []
        case pos =>
          go_wp2_with fail
          go_ret
          exact ⟨ret_bool (decide_eq_true ⟨HT.out, .inl rfl, by dsimp only; rw [hmx.out]; exact ⟨.inl ea, .inl eb⟩⟩).symm, HBEL.out⟩
        by_cases ub : Slt la hb
        case pos =>
          have fb := sl_t ub
          have UB := Lib.hid ub
          clear ub
          go_wp2_with fail
          go_ret
          exact ⟨ret_bool (decide_eq_true ⟨HT.out, .inl rfl, by dsimp only; rw [hmx.out]; exact ⟨.inl ea, .inr UB.out⟩⟩).symm, HBEL.out⟩
        have fb := sl_f ub
        have UB := Lib.hid ub
        clear ub
        go_wp2_with fail
        go_ret
        first | exact ⟨ret_bool (decide_eq_false (fun h => by have h2 := h.2.2.2; dsimp only at h2; rw [hmx.out] at h2; exact h2.elim (fun h => absurd h eb) (fun h => UB.out h))).symm, HBEL.out⟩ | exact ⟨ret_bool ((isEmpty_no eb).trans (decide_eq_false (fun h => by have h2 := h.2.2.2; dsimp only at h2; rw [hmx.out] at h2; exact h2.elim (fun h => absurd h eb) (fun h => UB.out h))).symm), HBEL.out⟩ | exact ⟨ret_bool ((isEmpty_no ea).trans (decide_eq_false (fun h => by have h2 := h.2.2.2; dsimp only at h2; rw [hmx.out] at h2; exact h2.elim (fun h => absurd h eb) (fun h => UB.out h))).symm), HBEL.out⟩
      by_cases ua : Slt la ha
      case pos =>
        have fa := sl_t ua
        have UA := Lib.hid ua
        clear ua
        by_cases eb : hb.toList = []
        case pos =>
          go_wp2_with fail
          go_ret
          exact ⟨ret_bool (decide_eq_true ⟨HT.out, .inl rfl, by dsimp only; rw [hmx.out]; exact ⟨.inr UA.out, .inl eb⟩⟩).symm, HBEL.out⟩
        by_cases ub : Slt la hb
        case pos =>
          have fb := sl_t ub
          have UB := Lib.hid ub
          clear ub
          go_wp2_with fail
          go_ret
          exact ⟨ret_bool (decide_eq_true ⟨HT.out, .inl rfl, by dsimp only; rw [hmx.out]; exact ⟨.inr UA.out, .inr UB.out⟩⟩).symm, HBEL.out⟩
        have fb := sl_f ub
        have UB := Lib.hid ub
        clear ub
        go_wp2_with fail
        go_ret
        first | exact ⟨ret_bool (decide_eq_false (fun h => by have h2 := h.2.2.2; dsimp only at h2; rw [hmx.out] at h2; exact h2.elim (fun h => absurd h eb) (fun h => UB.out h))).symm, HBEL.out⟩ | exact ⟨ret_bool ((isEmpty_no eb).trans (decide_eq_false (fun h => by have h2 := h.2.2.2; dsimp only at h2; rw [hmx.out] at h2; exact h2.elim (fun h => absurd h eb) (fun h => UB.out h))).symm), HBEL.out⟩ | exact ⟨ret_bool ((isEmpty_no ea).trans (decide_eq_false (fun h => by have h2 := h.2.2.2; dsimp only at h2; rw [hmx.out] at h2; exact h2.elim (fun h => absurd h eb) (fun h => UB.out h))).symm), HBEL.out⟩
      have fa := sl_f ua
      have UA := Lib.hid ua
      clear ua
      go_wp2_with fail
      go_ret
      first | exact ⟨ret_bool (decide_eq_false (fun h => by have h2 := h.2.2.1; dsimp only at h2; rw [hmx.out] at h2; exact h2.elim (fun h => absurd h ea) (fun h => UA.out h))).symm, HBEL.out⟩ | exact ⟨ret_bool ((isEmpty_no eb).trans (decide_eq_false (fun h => by have h2 := h.2.2.1; dsimp only at h2; rw [hmx.out] at h2; exact h2.elim (fun h => absurd h ea) (fun h => UA.out h))).symm), HBEL.out⟩ | exact ⟨ret_bool ((isEmpty_no ea).trans (decide_eq_false (fun h => by have h2 := h.2.2.1; dsimp only at h2; rw [hmx.out] at h2; exact h2.elim (fun h => absurd h ea) (fun h => UA.out h))).symm), HBEL.out⟩
    case true.true =>
      by_cases ea : ha.toList = []
      case pos =>
        by_cases eb : hb.toList = []
        case pos =>
          go_wp2_with fail
          go_ret
          exact ⟨ret_bool (decide_eq_true ⟨HT.out, .inl rfl, by dsimp only; rw [hmx.out]; exact ⟨.inl ea, .inl eb⟩⟩).symm, HBEL.out⟩
        by_cases ub : Slt la hb
        case pos =>
          have fb := sl_t ub
          have UB := Lib.hid ub
          clear ub
          go_wp2_with fail
          go_ret
          exact ⟨ret_bool (decide_eq_true ⟨HT.out, .inl rfl, by dsimp only; rw [hmx.out]; exact ⟨.inl ea, .inr UB.out⟩⟩).symm, HBEL.out⟩
        have fb := sl_f ub
        have UB := Lib.hid ub
        clear ub
        go_wp2_with fail
        go_ret
        first | exact ⟨ret_bool (decide_eq_false (fun h => by have h2 := h.2.2.2; dsimp only at h2; rw [hmx.out] at h2; exact h2.elim (fun h => absurd h eb) (fun h => UB.out h))).symm, HBEL.out⟩ | exact ⟨ret_bool ((isEmpty_no eb).trans (decide_eq_false (fun h => by have h2 := h.2.2.2; dsimp only at h2; rw [hmx.out] at h2; exact h2.elim (fun h => absurd h eb) (fun h => UB.out h))).symm), HBEL.out⟩ | exact ⟨ret_bool ((isEmpty_no ea).trans (decide_eq_false (fun h => by have h2 := h.2.2.2; dsimp only at h2; rw [hmx.out] at h2; exact h2.elim (fun h => absurd h eb) (fun h => UB.out h))).symm), HBEL.out⟩
      by_cases ua : Slt la ha
      case pos =>
        have fa := sl_t ua
        have UA := Lib.hid ua
        clear ua
        by_cases eb : hb.toList = []
        case pos =>
          go_wp2_with fail
          go_ret
          exact ⟨ret_bool (decide_eq_true ⟨HT.out, .inl rfl, by dsimp only; rw [hmx.out]; exact ⟨.inr UA.out, .inl eb⟩⟩).symm, HBEL.out⟩
        by_cases ub : Slt la hb
        case pos =>
          have fb := sl_t ub
          have UB := Lib.hid ub
          clear ub
          go_wp2_with fail
          go_ret
          exact ⟨ret_bool (decide_eq_true ⟨HT.out, .inl rfl, by dsimp only; rw [hmx.out]; exact ⟨.inr UA.out, .inr UB.out⟩⟩).symm, HBEL.out⟩
        have fb := sl_f ub
        have UB := Lib.hid ub
        clear ub
        go_wp2_with fail
        go_ret
        first | exact ⟨ret_bool (decide_eq_false (fun h => by have h2 := h.2.2.2; dsimp only at h2; rw [hmx.out] at h2; exact h2.elim (fun h => absurd h eb) (fun h => UB.out h))).symm, HBEL.out⟩ | exact ⟨ret_bool ((isEmpty_no eb).trans (decide_eq_false (fun h => by have h2 := h.2.2.2; dsimp only at h2; rw [hmx.out] at h2; exact h2.elim (fun h => absurd h eb) (fun h => UB.out h))).symm), HBEL.out⟩ | exact ⟨ret_bool ((isEmpty_no ea).trans (decide_eq_false (fun h => by have h2 := h.2.2.2; dsimp only at h2; rw [hmx.out] at h2; exact h2.elim (fun h => absurd h eb) (fun h => UB.out h))).symm), HBEL.out⟩
      have fa := sl_f ua
      have UA := Lib.hid ua
      clear ua
      go_wp2_with fail
      go_ret
      first | exact ⟨ret_bool (decide_eq_false (fun h => by have h2 := h.2.2.1; dsimp only at h2; rw [hmx.out] at h2; exact h2.elim (fun h => absurd h ea) (fun h => UA.out h))).symm, HBEL.out⟩ | exact ⟨ret_bool ((isEmpty_no eb).trans (decide_eq_false (fun h => by have h2 := h.2.2.1; dsimp only at h2; rw [hmx.out] at h2; exact h2.elim (fun h => absurd h ea) (fun h => UA.out h))).symm), HBEL.out⟩ | exact ⟨ret_bool ((isEmpty_no ea).trans (decide_eq_false (fun h => by have h2 := h.2.2.1; dsimp only at h2; rw [hmx.out] at h2; exact h2.elim (fun h => absurd h ea) (fun h => UA.out h))).symm), HBEL.out⟩
set_option maxHeartbeats 400000 in
theorem rconflict_any (a b : Lk) (w : World) : Calls Try.prog 11 #[.agg #[.int .i64 a.table, .string a.lo, .string a.hi, .bool a.write], .agg #[.int .i64 b.table, .string b.lo, .string b.hi, .bool b.write]] w fun e w' => e = .returned (.bool (decide (Meet a b))) ∧ Below w.heap.size w w' := by
  have hB := below_alloc (below_alloc (Below.refl w.heap.size w) (Obj.cells #[.int .i64 a.table, .string a.lo, .string a.hi, .bool a.write] 23)) (Obj.cells #[.int .i64 b.table, .string b.lo, .string b.hi, .bool b.write] 23)
  have HB := Aside0.mk hB
  clear hB
  go_enter Try.func11, Try.ntmps11
  go_wp2_with fail
  refine (meet_any a b _).mono ?_
  rintro e w2 ⟨rfl, hb2⟩
  have HB2 := Aside0.mk (below_then HB.out HB.out.size hb2)
  clear hb2
  go_wp2_with fail
  go_ret
  exact ⟨rfl, HB2.out⟩
end Go.Proofs.Ytajblhainchplaa
