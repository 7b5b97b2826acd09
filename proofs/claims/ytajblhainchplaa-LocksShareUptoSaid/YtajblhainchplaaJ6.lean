/- Layer 19: the walks of the closures, ahead, find. -/
import Derived.Test.YtajblhainchplaaJ5
set_option linter.unusedVariables false
set_option linter.unusedSimpArgs false
namespace Go.Proofs.Ytajblhainchplaa
open Go.RowKit Go.Proofs.YtajblhainchplaaW.PrintWords Go.Proofs.YtajblhainchplaaW.PrintLast
set_option maxHeartbeats 400000 in
theorem askbad_any (x : Lk) (w : World) : Calls Try.prog 32 #[.agg #[.int .i64 x.table, .string x.lo, .string x.hi, .bool x.write]] w fun e w' => e = .returned (.bool (decide (¬ RightL x))) ∧ Below w.heap.size w w' := by
  have HB := Aside0.mk (below_alloc (Below.refl w.heap.size w) (Obj.cells #[.int .i64 x.table, .string x.lo, .string x.hi, .bool x.write] 23))
  go_enter Try.func32, Try.ntmps32
  go_wp2_with fail
  refine (right_any x _).mono ?_
  rintro e w2 ⟨rfl, hb2⟩
  have HB2 := Aside0.mk (below_then HB.out HB.out.size hb2)
  clear hb2
  by_cases h : RightL x
  · rw [decide_eq_true h]
    have HR := Lib.hid h
    clear h
    go_wp2_with fail
    go_ret
    exact ⟨ret_bool (decide_eq_false (not_not_intro HR.out)).symm, HB2.out⟩
  · rw [decide_eq_false h]
    have HR := Lib.hid h
    clear h
    go_wp2_with fail
    go_ret
    exact ⟨ret_bool (decide_eq_true HR.out).symm, HB2.out⟩
abbrev lkBox (a : Lk) : Obj := .cells #[.int .i64 a.table, .string a.lo, .string a.hi, .bool a.write] 23 (0, 0)
abbrev plBox (p : Plc) (A : Option Addr) (c : Nat) : Obj := .cells #[.int .i64 p.pos, .slice A p.l.length c] 62 (0, 0)
set_option maxHeartbeats 400000 in
theorem c50_any (a b : Lk) (g : Nat) (w : World) (hg : w.heap[g]? = some (lkBox a)) : Calls Try.prog 50 #[.agg #[.int .i64 b.table, .string b.lo, .string b.hi, .bool b.write], .pointer (some ⟨g, 0, none⟩)] w fun e w' => e = .returned (.bool (decide (Meet a b))) ∧ Below w.heap.size w w' := by
  obtain ⟨bx, hbx⟩ : ∃ q, q = w.heap.size := ⟨_, rfl⟩
  obtain ⟨W1, h1, b1, s1, B1⟩ := grow (W := w) hbx.symm #[.int .i64 b.table, .string b.lo, .string b.hi, .bool b.write] 23
  have G := Aside0.mk (blk_below hg B1)
  have HB1 := Aside0.mk B1
  have x0 : W1.cell? ⟨g, 0, none⟩ = some (.int .i64 a.table) := blk_cell G.out 0
  have x1 : W1.cell? ⟨g, 1, none⟩ = some (.string a.lo) := blk_cell G.out 1
  have x2 : W1.cell? ⟨g, 2, none⟩ = some (.string a.hi) := blk_cell G.out 2
  have x3 : W1.cell? ⟨g, 3, none⟩ = some (.bool a.write) := blk_cell G.out 3
  have y0 : W1.cell? ⟨bx, 0, none⟩ = some (.int .i64 b.table) := blk_cell b1 0
  have y1 : W1.cell? ⟨bx, 1, none⟩ = some (.string b.lo) := blk_cell b1 1
  have y2 : W1.cell? ⟨bx, 2, none⟩ = some (.string b.hi) := blk_cell b1 2
  have y3 : W1.cell? ⟨bx, 3, none⟩ = some (.bool b.write) := blk_cell b1 3
  have H1 := Lib.hid h1
  have HBX := Lib.hid hbx
  clear h1 b1 s1 B1 hg hbx
  go_enter Try.func50, Try.ntmps50
  go_upto_region 1 with (fail)
  rw [← H1.out, ← HBX.out]
  go_wp2_with fail
  refine (conflict_any a b W1).mono ?_
  rintro e w2 ⟨rfl, hb2⟩
  have HB2 := Aside0.mk (below_then HB1.out HB1.out.size hb2)
  clear hb2
  go_wp2_with fail
  go_ret
  exact ⟨rfl, HB2.out⟩
set_option maxHeartbeats 400000 in
theorem c49_any (a : Lk) (of : Plc) (A : Option Addr) (c : Nat) (g : Nat) (w : World) (hg : w.heap[g]? = some (plBox of A c)) (hC : kLk.C w A of.l.length of.l) :
    Calls Try.prog 49 #[.agg #[.int .i64 a.table, .string a.lo, .string a.hi, .bool a.write], .pointer (some ⟨g, 0, none⟩)] w fun e w' => e = .returned (.bool (decide (∃ b ∈ of.l, Meet a b))) ∧ Below w.heap.size w w' := by
  obtain ⟨bx, hbx⟩ : ∃ q, q = w.heap.size := ⟨_, rfl⟩
  obtain ⟨W1, h1, b1, s1, B1⟩ := grow (W := w) hbx.symm #[.int .i64 a.table, .string a.lo, .string a.hi, .bool a.write] 23
  have G := Aside0.mk (blk_below hg B1)
  have BX := Aside0.mk b1
  have HB1 := Aside0.mk B1
  have HC := Aside0.mk (Kd.C_below hC B1)
  have x1 : W1.cell? ⟨g, 1, none⟩ = some (.slice A of.l.length c) := blk_cell G.out 1
  have H1 := Lib.hid h1
  have HBX := Lib.hid hbx
  clear h1 b1 s1 B1 hg hbx hC
  go_enter Try.func49, Try.ntmps49
  go_upto_region 1 with (fail)
  rw [← H1.out, ← HBX.out]
  go_wp2_with fail
  refine (contLk 50 enter50 #[.pointer (some ⟨bx, 0, none⟩)] (fun b => Meet a b) A of.l.length c of.l W1 HC.out (fun b _ w' hb' => c50_any a b bx w' (blk_below BX.out hb'))).mono ?_
  rintro e w2 ⟨rfl, hb2⟩
  have HB2 := Aside0.mk (below_then HB1.out HB1.out.size hb2)
  clear hb2
  go_wp2_with fail
  go_ret
  exact ⟨rfl, HB2.out⟩
def Ahead (of p : Plc) : Prop := p.pos < of.pos ∧ MeetAny p.l of.l
instance (of p : Plc) : Decidable (Ahead of p) := by unfold Ahead; infer_instance
set_option maxHeartbeats 400000 in
theorem c48_any (p of : Plc) (A : Option Addr) (c : Nat) (B : Option Addr) (d : Nat) (g : Nat) (w : World) (hg : w.heap[g]? = some (plBox of A c)) (hC : kLk.C w A of.l.length of.l) (hD : kLk.C w B p.l.length p.l) :
    Calls Try.prog 48 #[.agg #[.int .i64 p.pos, .slice B p.l.length d], .pointer (some ⟨g, 0, none⟩)] w fun e w' => e = .returned (.bool (decide (Ahead of p))) ∧ Below w.heap.size w w' := by
  obtain ⟨bx, hbx⟩ : ∃ q, q = w.heap.size := ⟨_, rfl⟩
  obtain ⟨W1, h1, b1, s1, B1⟩ := grow (W := w) hbx.symm #[.int .i64 p.pos, .slice B p.l.length d] 62
  have G := Aside0.mk (blk_below hg B1)
  have HB1 := Aside0.mk B1
  have HC := Aside0.mk (Kd.C_below hC B1)
  have HD := Aside0.mk (Kd.C_below hD B1)
  have x0 : W1.cell? ⟨g, 0, none⟩ = some (.int .i64 of.pos) := blk_cell G.out 0
  have y0 : W1.cell? ⟨bx, 0, none⟩ = some (.int .i64 p.pos) := blk_cell b1 0
  have y1 : W1.cell? ⟨bx, 1, none⟩ = some (.slice B p.l.length d) := blk_cell b1 1
  have H1 := Lib.hid h1
  have HBX := Lib.hid hbx
  clear h1 b1 s1 B1 hg hbx hC hD
  go_enter Try.func48, Try.ntmps48
  go_upto_region 1 with (fail)
  rw [← H1.out, ← HBX.out]
  by_cases hp : p.pos < of.pos
  · go_wp2_with fail
    refine (contLk 49 enter49 #[.pointer (some ⟨g, 0, none⟩)] (fun a => ∃ b ∈ of.l, Meet a b) B p.l.length d p.l W1 HD.out (fun a _ w' hb' => c49_any a of A c g w' (blk_below G.out hb') (Kd.C_below HC.out hb'))).mono ?_
    rintro e w2 ⟨rfl, hb2⟩
    have HB2 := Aside0.mk (below_then HB1.out HB1.out.size hb2)
    have HP := Lib.hid hp
    clear hb2 hp
    go_wp2_with fail
    go_ret
    exact ⟨ret_bool (decide_eq_decide.2 ⟨fun h => ⟨HP.out, h⟩, fun h => h.2⟩), HB2.out⟩
  · have HP := Lib.hid hp
    go_wp2_with fail
    go_ret
    exact ⟨ret_bool (decide_eq_false (fun h => by have := HP.out; have := h.1; omega)).symm, HB1.out⟩
set_option maxHeartbeats 400000 in
theorem ahead_any (of : Plc) (A : Option Addr) (c : Nat) (w : World) : Calls Try.prog 35 #[.agg #[.int .i64 of.pos, .slice A of.l.length c]] w fun e w' => ∃ g, e = .returned (.func (.func 48) #[] #[.pointer (some ⟨g, 0, none⟩)]) ∧ w'.heap[g]? = some (plBox of A c) ∧ Below w.heap.size w w' := by
  go_enter Try.func35, Try.ntmps35
  go_wp2_with fail
  go_ret
  exact ⟨w.heap.size, rfl, blk_alloc _ _, below_alloc (Below.refl _ _) _⟩
set_option maxHeartbeats 400000 in
theorem c51_any (p : Plc) (pos : Int) (B : Option Addr) (d : Nat) (g : Nat) (w : World) (hg : w.heap[g]? = some (.cells #[.int .i64 pos] 3 (0, 0))) :
    Calls Try.prog 51 #[.agg #[.int .i64 p.pos, .slice B p.l.length d], .pointer (some ⟨g, 0, none⟩)] w fun e w' => e = .returned (.bool (decide (p.pos = pos))) ∧ Below w.heap.size w w' := by
  obtain ⟨bx, hbx⟩ : ∃ q, q = w.heap.size := ⟨_, rfl⟩
  obtain ⟨W1, h1, b1, s1, B1⟩ := grow (W := w) hbx.symm #[.int .i64 p.pos, .slice B p.l.length d] 62
  have HB1 := Aside0.mk B1
  have x0 : W1.cell? ⟨g, 0, none⟩ = some (.int .i64 pos) := blk_cell (blk_below hg B1) 0
  have y0 : W1.cell? ⟨bx, 0, none⟩ = some (.int .i64 p.pos) := blk_cell b1 0
  have H1 := Lib.hid h1
  have HBX := Lib.hid hbx
  clear h1 b1 s1 B1 hg hbx
  go_enter Try.func51, Try.ntmps51
  go_upto_region 1 with (fail)
  rw [← H1.out, ← HBX.out]
  by_cases hp : p.pos = pos
  · have p1 := int_beq_true hp
    have HP := Lib.hid hp
    clear hp
    go_wp2_with fail
    go_ret
    exact ⟨ret_bool (decide_eq_true HP.out).symm, HB1.out⟩
  · have p1 := int_beq_false hp
    have HP := Lib.hid hp
    clear hp
    go_wp2_with fail
    go_ret
    exact ⟨ret_bool (decide_eq_false HP.out).symm, HB1.out⟩
set_option maxHeartbeats 400000 in
theorem find_any (ps : List Plc) (pos : Int) (A : Option Addr) (c : Nat) (last : Value) (p : Nat) (w : World) (hp : w.heap[p]? = some (.cells #[.slice A ps.length c, last] 58 (0, 0))) (hC : kPl.C w A ps.length ps) :
    Calls Try.prog 36 #[.pointer (some ⟨p, 0, none⟩), .int .i64 pos] w fun e w' => ∃ r : Int, e = .returned (.int .i64 r) ∧ First (fun q => q.pos = pos) ps r ∧ Below w.heap.size w w' := by
  obtain ⟨bx, hbx⟩ : ∃ q, q = w.heap.size := ⟨_, rfl⟩
  obtain ⟨W1, h1, b1, s1, B1⟩ := grow (W := w) hbx.symm #[.int .i64 pos] 3
  have HB1 := Aside0.mk B1
  have HC := Aside0.mk (Kd.C_below hC B1)
  have x0 : W1.cell? ⟨p, 0, none⟩ = some (.slice A ps.length c) := blk_cell (blk_below hp B1) 0
  have BX := Aside0.mk b1
  have H1 := Lib.hid h1
  have HBX := Lib.hid hbx
  clear h1 b1 s1 B1 hp hbx hC
  go_enter Try.func36, Try.ntmps36
  go_upto_region 1 with (fail)
  rw [← H1.out, ← HBX.out]
  go_wp2_with fail
  refine (indexPl 51 enter51 #[.pointer (some ⟨bx, 0, none⟩)] (fun q => q.pos = pos) A ps.length c ps W1 HC.out (fun q _ B d w' hb' _ => c51_any q pos B d bx w' (blk_below BX.out hb'))).mono ?_
  rintro e w2 ⟨r, rfl, hr, hb2⟩
  have HB2 := Aside0.mk (below_then HB1.out HB1.out.size hb2)
  have HR := Lib.hid hr
  clear hb2 hr
  go_wp2_with fail
  go_ret
  exact ⟨r, rfl, HR.out, HB2.out⟩
end Go.Proofs.Ytajblhainchplaa
