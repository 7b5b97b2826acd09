/- Layer 19: the walk of LocksMeet. -/
import Derived.Test.YtajblhainchplaaJ11
set_option linter.unusedVariables false
set_option linter.unusedSimpArgs false
namespace Go.Proofs.Ytajblhainchplaa
open Go.RowKit Go.Proofs.YtajblhainchplaaW.PrintWords Go.Proofs.YtajblhainchplaaW.PrintLast
def LkZ (x : Lk) : Prop := x.lo.size ≤ 140737488351232 ∧ x.hi.size ≤ 140737488351232
set_option maxRecDepth 100000 in
set_option maxHeartbeats 4000000 in
theorem locksMeet_any (csa : Array Value) (a : Lk) (csb : Array Value) (b : Lk) (W : World) (hKa : kLk.K W a csa.toList) (hZa : LkZ a) (hKb : kLk.K W b csb.toList) (hZb : LkZ b) :
    Calls Try.prog 3 #[.agg csa, .agg csb] W fun e W' => e = .returned (.bool true) ∧ Below W.heap.size W W' := by
  obtain rfl : csa = #[.int .i64 a.table, .string a.lo, .string a.hi, .bool a.write] := by rw [kLk_K] at hKa; exact Array.toList_inj.1 hKa
  obtain rfl : csb = #[.int .i64 b.table, .string b.lo, .string b.hi, .bool b.write] := by rw [kLk_K] at hKb; exact Array.toList_inj.1 hKb
  obtain ⟨b1, hb1⟩ : ∃ b, b = W.heap.size := ⟨_, rfl⟩
  obtain ⟨W1, h1, k1, s1, B1⟩ := grow (W := W) hb1.symm #[.int .i64 a.table, .string a.lo, .string a.hi, .bool a.write] 23
  obtain ⟨b2, hb2⟩ : ∃ b, b = W1.heap.size := ⟨_, rfl⟩
  obtain ⟨W2, h2, k2, s2, B2⟩ := grow (W := W1) hb2.symm #[.int .i64 b.table, .string b.lo, .string b.hi, .bool b.write] 23
  have K1 := Aside0.mk (blk_below k1 B2)
  have K2 := Aside0.mk k2
  have BW2 := Aside0.mk (below_then B1 B1.size B2)
  have H1 := Lib.hid h1
  have H2 := Lib.hid h2
  have HB1 := Lib.hid hb1
  have HB2 := Lib.hid (show b2 = W.heap.size + 1 by rw [hb2, s1, hb1])
  clear h1 h2 k1 k2 s1 s2 B1 B2 hb1 hb2 hKa hKb hZa hZb
  go_enter Try.func3, Try.ntmps3
  go_upto_region 1 with (fail)
  rw [← H1.out, ← H2.out, ← HB2.out, ← HB1.out]
  have z0 : W2.cell? ⟨b1, 0, none⟩ = some (.int .i64 a.table) := blk_cell K1.out 0
  have z1 : W2.cell? ⟨b1, 1, none⟩ = some (.string a.lo) := blk_cell K1.out 1
  have z2 : W2.cell? ⟨b1, 2, none⟩ = some (.string a.hi) := blk_cell K1.out 2
  have z3 : W2.cell? ⟨b1, 3, none⟩ = some (.bool a.write) := blk_cell K1.out 3
  have y0 : W2.cell? ⟨b2, 0, none⟩ = some (.int .i64 b.table) := blk_cell K2.out 0
  have y1 : W2.cell? ⟨b2, 1, none⟩ = some (.string b.lo) := blk_cell K2.out 1
  have y2 : W2.cell? ⟨b2, 2, none⟩ = some (.string b.hi) := blk_cell K2.out 2
  have y3 : W2.cell? ⟨b2, 3, none⟩ = some (.bool b.write) := blk_cell K2.out 3
  by_cases g0 : (a.lo.size : Int) > 2147483647
  · go_wp2_with fail
    go_ret
    exact ⟨rfl, BW2.out⟩
  by_cases g1 : (a.hi.size : Int) > 2147483647
  · go_wp2_with fail
    go_ret
    exact ⟨rfl, BW2.out⟩
  by_cases g2 : (b.lo.size : Int) > 2147483647
  · go_wp2_with fail
    go_ret
    exact ⟨rfl, BW2.out⟩
  by_cases g3 : (b.hi.size : Int) > 2147483647
  · go_wp2_with fail
    go_ret
    exact ⟨rfl, BW2.out⟩
  go_wp2_with fail
  refine (awake_any W2).mono ?_
  rintro e wa ⟨rfl, hb⟩
  replace K1 := Aside0.mk (blk_below K1.out hb)
  replace K2 := Aside0.mk (blk_below K2.out hb)
  have Bwa := Aside0.mk (below_then BW2.out BW2.out.size hb)
  clear hb z0 z1 z2 z3 y0 y1 y2 y3 g0 g1 g2 g3
  have z0 : wa.cell? ⟨b1, 0, none⟩ = some (.int .i64 a.table) := blk_cell K1.out 0
  have z1 : wa.cell? ⟨b1, 1, none⟩ = some (.string a.lo) := blk_cell K1.out 1
  have z2 : wa.cell? ⟨b1, 2, none⟩ = some (.string a.hi) := blk_cell K1.out 2
  have z3 : wa.cell? ⟨b1, 3, none⟩ = some (.bool a.write) := blk_cell K1.out 3
  have y0 : wa.cell? ⟨b2, 0, none⟩ = some (.int .i64 b.table) := blk_cell K2.out 0
  have y1 : wa.cell? ⟨b2, 1, none⟩ = some (.string b.lo) := blk_cell K2.out 1
  have y2 : wa.cell? ⟨b2, 2, none⟩ = some (.string b.hi) := blk_cell K2.out 2
  have y3 : wa.cell? ⟨b2, 3, none⟩ = some (.bool b.write) := blk_cell K2.out 3
  obtain ⟨x, hx⟩ : ∃ x, decide (RightL a) = x := ⟨_, rfl⟩
  obtain ⟨m, hm⟩ : ∃ x, decide (Meet a b) = x := ⟨_, rfl⟩
  obtain ⟨o, ho⟩ : ∃ x, decide (Meet a a) = x := ⟨_, rfl⟩
  have hm' : decide (Meet b a) = m := by rw [← hm]; exact decide_eq_decide.2 meet_comm
  have hxo : x = true → o = a.write := by
    intro h
    rw [h] at hx
    have h1 := meet_self (of_decide_eq_true hx)
    cases hw : a.write
    · rw [← ho]; exact decide_eq_false (fun h => by rw [h1.1 h] at hw; cases hw)
    · rw [← ho]; exact decide_eq_true (h1.2 hw)
  have HX := Lib.hid hx
  have HM := Lib.hid hm
  have HM' := Lib.hid hm'
  have HO := Lib.hid ho
  have HXO := Lib.hid hxo
  clear hx hm hm' ho hxo
  go_wp2_with fail
  refine (right_any a wa).mono ?_
  rintro e wb0 ⟨he, hb⟩
  rw [HX.out] at he
  subst he
  replace K1 := Aside0.mk (blk_below K1.out hb)
  replace K2 := Aside0.mk (blk_below K2.out hb)
  have Bwb0 := Aside0.mk (below_then Bwa.out Bwa.out.size hb)
  clear hb z0 z1 z2 z3 y0 y1 y2 y3
  have z0 : wb0.cell? ⟨b1, 0, none⟩ = some (.int .i64 a.table) := blk_cell K1.out 0
  have z1 : wb0.cell? ⟨b1, 1, none⟩ = some (.string a.lo) := blk_cell K1.out 1
  have z2 : wb0.cell? ⟨b1, 2, none⟩ = some (.string a.hi) := blk_cell K1.out 2
  have z3 : wb0.cell? ⟨b1, 3, none⟩ = some (.bool a.write) := blk_cell K1.out 3
  have y0 : wb0.cell? ⟨b2, 0, none⟩ = some (.int .i64 b.table) := blk_cell K2.out 0
  have y1 : wb0.cell? ⟨b2, 1, none⟩ = some (.string b.lo) := blk_cell K2.out 1
  have y2 : wb0.cell? ⟨b2, 2, none⟩ = some (.string b.hi) := blk_cell K2.out 2
  have y3 : wb0.cell? ⟨b2, 3, none⟩ = some (.bool b.write) := blk_cell K2.out 3
  go_wp2_with fail
  refine (rright_any a wb0).mono ?_
  rintro e wb1 ⟨he, hb⟩
  rw [HX.out] at he
  subst he
  replace K1 := Aside0.mk (blk_below K1.out hb)
  replace K2 := Aside0.mk (blk_below K2.out hb)
  have Bwb1 := Aside0.mk (below_then Bwb0.out Bwb0.out.size hb)
  clear hb z0 z1 z2 z3 y0 y1 y2 y3
  have z0 : wb1.cell? ⟨b1, 0, none⟩ = some (.int .i64 a.table) := blk_cell K1.out 0
  have z1 : wb1.cell? ⟨b1, 1, none⟩ = some (.string a.lo) := blk_cell K1.out 1
  have z2 : wb1.cell? ⟨b1, 2, none⟩ = some (.string a.hi) := blk_cell K1.out 2
  have z3 : wb1.cell? ⟨b1, 3, none⟩ = some (.bool a.write) := blk_cell K1.out 3
  have y0 : wb1.cell? ⟨b2, 0, none⟩ = some (.int .i64 b.table) := blk_cell K2.out 0
  have y1 : wb1.cell? ⟨b2, 1, none⟩ = some (.string b.lo) := blk_cell K2.out 1
  have y2 : wb1.cell? ⟨b2, 2, none⟩ = some (.string b.hi) := blk_cell K2.out 2
  have y3 : wb1.cell? ⟨b2, 3, none⟩ = some (.bool b.write) := blk_cell K2.out 3
  go_wp2_with fail
  refine (conflict_any a b wb1).mono ?_
  rintro e wb2 ⟨he, hb⟩
  rw [HM.out] at he
  subst he
  replace K1 := Aside0.mk (blk_below K1.out hb)
  replace K2 := Aside0.mk (blk_below K2.out hb)
  have Bwb2 := Aside0.mk (below_then Bwb1.out Bwb1.out.size hb)
  clear hb z0 z1 z2 z3 y0 y1 y2 y3
  have z0 : wb2.cell? ⟨b1, 0, none⟩ = some (.int .i64 a.table) := blk_cell K1.out 0
  have z1 : wb2.cell? ⟨b1, 1, none⟩ = some (.string a.lo) := blk_cell K1.out 1
  have z2 : wb2.cell? ⟨b1, 2, none⟩ = some (.string a.hi) := blk_cell K1.out 2
  have z3 : wb2.cell? ⟨b1, 3, none⟩ = some (.bool a.write) := blk_cell K1.out 3
  have y0 : wb2.cell? ⟨b2, 0, none⟩ = some (.int .i64 b.table) := blk_cell K2.out 0
  have y1 : wb2.cell? ⟨b2, 1, none⟩ = some (.string b.lo) := blk_cell K2.out 1
  have y2 : wb2.cell? ⟨b2, 2, none⟩ = some (.string b.hi) := blk_cell K2.out 2
  have y3 : wb2.cell? ⟨b2, 3, none⟩ = some (.bool b.write) := blk_cell K2.out 3
  go_wp2_with fail
  refine (conflict_any b a wb2).mono ?_
  rintro e wb3 ⟨he, hb⟩
  rw [HM'.out] at he
  subst he
  replace K1 := Aside0.mk (blk_below K1.out hb)
  replace K2 := Aside0.mk (blk_below K2.out hb)
  have Bwb3 := Aside0.mk (below_then Bwb2.out Bwb2.out.size hb)
  clear hb z0 z1 z2 z3 y0 y1 y2 y3
  have z0 : wb3.cell? ⟨b1, 0, none⟩ = some (.int .i64 a.table) := blk_cell K1.out 0
  have z1 : wb3.cell? ⟨b1, 1, none⟩ = some (.string a.lo) := blk_cell K1.out 1
  have z2 : wb3.cell? ⟨b1, 2, none⟩ = some (.string a.hi) := blk_cell K1.out 2
  have z3 : wb3.cell? ⟨b1, 3, none⟩ = some (.bool a.write) := blk_cell K1.out 3
  have y0 : wb3.cell? ⟨b2, 0, none⟩ = some (.int .i64 b.table) := blk_cell K2.out 0
  have y1 : wb3.cell? ⟨b2, 1, none⟩ = some (.string b.lo) := blk_cell K2.out 1
  have y2 : wb3.cell? ⟨b2, 2, none⟩ = some (.string b.hi) := blk_cell K2.out 2
  have y3 : wb3.cell? ⟨b2, 3, none⟩ = some (.bool b.write) := blk_cell K2.out 3
  go_wp2_with fail
  refine (rconflict_any a b wb3).mono ?_
  rintro e wb4 ⟨he, hb⟩
  rw [HM.out] at he
  subst he
  replace K1 := Aside0.mk (blk_below K1.out hb)
  replace K2 := Aside0.mk (blk_below K2.out hb)
  have Bwb4 := Aside0.mk (below_then Bwb3.out Bwb3.out.size hb)
  clear hb z0 z1 z2 z3 y0 y1 y2 y3
  have z0 : wb4.cell? ⟨b1, 0, none⟩ = some (.int .i64 a.table) := blk_cell K1.out 0
  have z1 : wb4.cell? ⟨b1, 1, none⟩ = some (.string a.lo) := blk_cell K1.out 1
  have z2 : wb4.cell? ⟨b1, 2, none⟩ = some (.string a.hi) := blk_cell K1.out 2
  have z3 : wb4.cell? ⟨b1, 3, none⟩ = some (.bool a.write) := blk_cell K1.out 3
  have y0 : wb4.cell? ⟨b2, 0, none⟩ = some (.int .i64 b.table) := blk_cell K2.out 0
  have y1 : wb4.cell? ⟨b2, 1, none⟩ = some (.string b.lo) := blk_cell K2.out 1
  have y2 : wb4.cell? ⟨b2, 2, none⟩ = some (.string b.hi) := blk_cell K2.out 2
  have y3 : wb4.cell? ⟨b2, 3, none⟩ = some (.bool b.write) := blk_cell K2.out 3
  go_wp2_with fail
  refine (conflict_any a a wb4).mono ?_
  rintro e wb5 ⟨he, hb⟩
  rw [HO.out] at he
  subst he
  replace K1 := Aside0.mk (blk_below K1.out hb)
  replace K2 := Aside0.mk (blk_below K2.out hb)
  have Bwb5 := Aside0.mk (below_then Bwb4.out Bwb4.out.size hb)
  clear hb z0 z1 z2 z3 y0 y1 y2 y3
  have z0 : wb5.cell? ⟨b1, 0, none⟩ = some (.int .i64 a.table) := blk_cell K1.out 0
  have z1 : wb5.cell? ⟨b1, 1, none⟩ = some (.string a.lo) := blk_cell K1.out 1
  have z2 : wb5.cell? ⟨b1, 2, none⟩ = some (.string a.hi) := blk_cell K1.out 2
  have z3 : wb5.cell? ⟨b1, 3, none⟩ = some (.bool a.write) := blk_cell K1.out 3
  have y0 : wb5.cell? ⟨b2, 0, none⟩ = some (.int .i64 b.table) := blk_cell K2.out 0
  have y1 : wb5.cell? ⟨b2, 1, none⟩ = some (.string b.lo) := blk_cell K2.out 1
  have y2 : wb5.cell? ⟨b2, 2, none⟩ = some (.string b.hi) := blk_cell K2.out 2
  have y3 : wb5.cell? ⟨b2, 3, none⟩ = some (.bool b.write) := blk_cell K2.out 3
  have hxo := HXO.out
  clear HX HM HM' HO HXO
  obtain ⟨wr, hwr⟩ : ∃ r, a.write = r := ⟨_, rfl⟩
  rw [hwr] at z3 hxo
  clear hwr
  cases x with
  | true =>
    obtain rfl := hxo rfl
    clear hxo
    cases m <;> cases o <;> (go_wp2_with fail; go_ret; exact ⟨rfl, Bwb5.out⟩)
  | false =>
    clear hxo
    cases m <;> cases o <;> cases wr <;> (go_wp2_with fail; go_ret; exact ⟨rfl, Bwb5.out⟩)
end Go.Proofs.Ytajblhainchplaa
