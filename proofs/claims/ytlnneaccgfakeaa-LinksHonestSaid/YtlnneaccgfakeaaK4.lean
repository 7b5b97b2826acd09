/- Layer 23: the walks of of, Of. -/
import Derived.Test.YtlnneaccgfakeaaK3
set_option linter.unusedVariables false
set_option linter.unusedSimpArgs false
namespace Go.Proofs.Ytlnneaccgfakeaa
open Go.RowKit Go.Proofs.YtlnneaccgfakeaaW.PrintWords Go.Proofs.YtlnneaccgfakeaaW.PrintLast
/-- A row of strings lies in one block, or none. -/
theorem str_one {w : World} {base : Nat} {v : Value} {xs : List ByteArray} (h : Kd.string.R 9 w base (fun _ => True) v xs) (hb : base < w.heap.size) :
    ∃ b, base ≤ b ∧ b < w.heap.size ∧ Kd.string.R 9 w base (fun k => k = b) v xs := by
  have ho := Kd.own_of_R h
  cases hk : v.ownBlock with
  | none => exact ⟨base, Nat.le_refl _, hb, Kd.R_of_own ho (fun k h => by rw [hk] at h; cases h)⟩
  | some k => exact ⟨k, own_base ho k hk, own_lt ho k hk, Kd.R_of_own ho (fun q h => by rw [hk] at h; injection h with h; exact h.symm)⟩
/-- A message of the call's own. -/
def MsgOut (m : Msg) (w : World) (e : Ending) (w' : World) : Prop :=
  ∃ v b, e = .returned (.agg #[.int .i64 m.src, .int .i64 m.dst, .int .i64 m.kind, .int .i64 m.pos, v]) ∧ Kd.string.R 9 w' w.heap.size (fun k => k = b) v m.body ∧ w.heap.size ≤ b ∧ b < w'.heap.size ∧ Below w.heap.size w w'
/-- A struct of five cells written over. -/
theorem put5 {w : World} {g : Nat} {o0 o1 o2 o3 o4 : Value} {e : TypeId} (h : w.heap[g]? = some (.cells #[o0, o1, o2, o3, o4] e (0, 0))) (u0 u1 u2 u3 u4 : Value) :
    ∃ w', w' = ((((w.setCell ⟨g, 0, none⟩ u0).setCell ⟨g, 1, none⟩ u1).setCell ⟨g, 2, none⟩ u2).setCell ⟨g, 3, none⟩ u3).setCell ⟨g, 4, none⟩ u4 ∧ w'.heap[g]? = some (.cells #[u0, u1, u2, u3, u4] e (0, 0)) ∧ Mod w w' (fun k => k = g) ∧ w'.heap.size = w.heap.size :=
  ⟨_, rfl, blk_put (cs' := #[u0, u1, u2, u3, u4]) (blk_put (cs' := #[u0, u1, u2, u3, o4]) (blk_put (cs' := #[u0, u1, u2, o3, o4]) (blk_put (cs' := #[u0, u1, o2, o3, o4]) (blk_put (cs' := #[u0, o1, o2, o3, o4]) h 0 u0 rfl) 1 u1 rfl) 2 u2 rfl) 3 u3 rfl) 4 u4 rfl,
    (((((mod_setCell w g 0 u0).trans (mod_setCell _ g 1 u1)).trans (mod_setCell _ g 2 u2)).trans (mod_setCell _ g 3 u3)).trans (mod_setCell _ g 4 u4)), by simp only [setCell_size]⟩
theorem info32 : (Try.prog.info? 32).map (fun i => (i.zero, i.size, i.bytes)) = some (some (.agg #[.int .i64 0, .int .i64 0, .int .i64 0, .int .i64 0, .slice none 0 0]), 5, 56) := by kernel_rfl
theorem size32 : (Try.prog.info? 32).map (·.size) = some 5 := by kernel_rfl
def mBox (m : Msg) (v : Value) : Obj := .cells #[.int .i64 m.src, .int .i64 m.dst, .int .i64 m.kind, .int .i64 m.pos, v] 32 (0, 0)
set_option maxRecDepth 100000 in
set_option maxHeartbeats 1000000 in
theorem of_any (m : Msg) (B : Option Addr) (d : Nat) (w : World) (hC : Kd.string.C w B m.body.length m.body) (hn : m.body.length * 16 ≤ 140737488355328) :
    Calls Try.prog 19 #[.agg #[.int .i64 m.src, .int .i64 m.dst, .int .i64 m.kind, .int .i64 m.pos, .slice B m.body.length d]] w (MsgOut m w) := by
  have HC := Aside0.mk hC
  clear hC
  obtain ⟨W0, h0, b0, s0, B0⟩ := grow (W := w) rfl #[.int .i64 m.src, .int .i64 m.dst, .int .i64 m.kind, .int .i64 m.pos, .slice B m.body.length d] 32
  obtain ⟨W1, h1, b1, s1, B1⟩ := grow s0 #[.int .i64 0, .int .i64 0, .int .i64 0, .int .i64 0, .slice none 0 0] 32
  have hB1 := below_then B0 B0.size B1
  have c0 := blk_below b0 B1
  have HB1 := Aside0.mk hB1
  have S1 := Lib.hid s1
  have B0' := Aside0.mk c0
  have B1' := Aside0.mk b1
  have H0 := Lib.hid h0
  have H1 := Lib.hid h1
  clear hB1 B0 B1 b0 b1 s0 s1 c0 h0 h1
  go_enter Try.func19, Try.ntmps19
  go_wp2_with fail
  rw [← H0.out, ← H1.out]
  refine (clone_any B d m.body w W1 HB1.out HC.out hn).mono ?_
  rintro e w2 ⟨v, news, rfl, ho, hr, hb⟩
  have hR := Cloned.row ho hr hb (fun _ _ h _ _ _ => h)
  obtain ⟨A, c, rfl⟩ := Kd.R_slice hR
  have HR := Aside0.mk hR
  have hm := below_then HB1.out HB1.out.size hb
  have c0 := blk_below B0'.out hb
  have c1 := blk_below B1'.out hb
  have S2 := Lib.hid (show w.heap.size + 2 ≤ w2.heap.size by have := hb.size; have := S1.out; omega)
  clear ho hr hb hR
  have x0 : w2.cell? ⟨w.heap.size, 0, none⟩ = some (.int .i64 m.src) := blk_cell c0 0
  have x1 : w2.cell? ⟨w.heap.size, 1, none⟩ = some (.int .i64 m.dst) := blk_cell c0 1
  have x2 : w2.cell? ⟨w.heap.size, 2, none⟩ = some (.int .i64 m.kind) := blk_cell c0 2
  have x3 : w2.cell? ⟨w.heap.size, 3, none⟩ = some (.int .i64 m.pos) := blk_cell c0 3
  have x4 : w2.cell? ⟨w.heap.size, 4, none⟩ = some (.slice B m.body.length d) := blk_cell c0 4
  have x5 : w2.frozen? ⟨w.heap.size, 4, none⟩ = false := blk_frozen c0 4
  have y0 : w2.cell? ⟨w.heap.size + 1, 0, none⟩ = some (.int .i64 0) := blk_cell c1 0
  have y1 : w2.cell? ⟨w.heap.size + 1, 1, none⟩ = some (.int .i64 0) := blk_cell c1 1
  have y2 : w2.cell? ⟨w.heap.size + 1, 2, none⟩ = some (.int .i64 0) := blk_cell c1 2
  have y3 : w2.cell? ⟨w.heap.size + 1, 3, none⟩ = some (.int .i64 0) := blk_cell c1 3
  have y4 : w2.cell? ⟨w.heap.size + 1, 4, none⟩ = some (.slice none 0 0) := blk_cell c1 4
  have y5 : ∀ i, w2.frozen? ⟨w.heap.size + 1, i, none⟩ = false := fun i => blk_frozen c1 i
  have HM := Aside0.mk hm
  have C1 := Aside0.mk c1
  clear hm c0 c1
  go_wp2_with fail
  have c1 := (Below.heap_setCell w2 ⟨w.heap.size, 4, none⟩ (.slice A m.body.length c) (w.heap.size + 1) (by show w.heap.size + 1 ≠ w.heap.size; omega)).trans C1.out
  obtain ⟨w3, hw3, b3, m3, s3⟩ := put5 c1 (.int .i64 m.src) (.int .i64 m.dst) (.int .i64 m.kind) (.int .i64 m.pos) (.slice A m.body.length c)
  rw [← hw3]
  have hm3 : Mod w2 w3 (fun k => k = w.heap.size ∨ k = w.heap.size + 1) := ((mod_setCell w2 w.heap.size 4 _).mono (fun _ h => .inl h)).trans (m3.mono (fun _ h => .inr h))
  have hs1 := S1.out
  have hR3 : Kd.string.R 9 w3 W1.heap.size (fun _ => True) (.slice A m.body.length c) m.body :=
    Kd.R_mono (R_up (N := W1.heap.size) (Kd.R_mono (ok' := fun q => W1.heap.size ≤ q) (Kd.R_bound HR.out) (fun q hq => hq.2.1)) (fun q h => h) hm3 (fun i hi => by omega)) (fun _ _ => trivial)
  have hs2 := S2.out
  have hs3 := hm3.size
  obtain ⟨b, hb1, hb2, hR4⟩ := str_one (Kd.R_lower (base' := w.heap.size) hR3 (by omega)) (by omega)
  refine bodyPost_ret (results_cell_row rfl _ _ (w.heap.size + 1) 32 _ (0, 0) _ rfl b3 Try.underlying32 rfl (by kernel_rfl)) rfl ?_
  exact ⟨_, b, rfl, hR4, hb1, hb2, Mod.below HM.out hm3 (by omega) (fun i hi => by omega)⟩
set_option maxRecDepth 100000 in
set_option maxHeartbeats 1000000 in
theorem Of_any (m : Msg) (B : Option Addr) (d : Nat) (w : World) (hC : Kd.string.C w B m.body.length m.body) (hn : m.body.length * 16 ≤ 140737488355328) :
    Calls Try.prog 22 #[.agg #[.int .i64 m.src, .int .i64 m.dst, .int .i64 m.kind, .int .i64 m.pos, .slice B m.body.length d]] w (MsgOut m w) := by
  have HC := Aside0.mk hC
  clear hC
  obtain ⟨W0, h0, b0, s0, B0⟩ := grow (W := w) rfl #[.int .i64 m.src, .int .i64 m.dst, .int .i64 m.kind, .int .i64 m.pos, .slice B m.body.length d] 32
  obtain ⟨W1, h1, b1, s1, B1⟩ := grow s0 #[.int .i64 0, .int .i64 0, .int .i64 0, .int .i64 0, .slice none 0 0] 32
  obtain ⟨W2, h2, b2, s2, B2⟩ := grow s1 #[.int .i64 m.src, .int .i64 m.dst, .int .i64 m.kind, .int .i64 m.pos, .slice B m.body.length d] 32
  have hB2 := below_then (below_then B0 B0.size B1) (by omega) B2
  have hb0 := blk_below (blk_below b0 B1) B2
  have hb1 := blk_below b1 B2
  have HB2 := Aside0.mk hB2
  have S2 := Lib.hid s2
  have B0' := Aside0.mk hb0
  have B1' := Aside0.mk hb1
  have B2' := Aside0.mk b2
  have H0 := Lib.hid h0
  have H1 := Lib.hid h1
  have H2 := Lib.hid h2
  clear hB2 B0 B1 B2 b0 b1 b2 s0 s1 s2 hb0 hb1 h0 h1 h2
  go_enter Try.func22, Try.ntmps22
  go_wp2_with (first | (at_make; (rw [← H0.out, ← H1.out, ← H2.out]); (refine Kd.R_make Kd.string (w0 := W2) W2.heap.size 9 rfl rfl 30 (.tmp 7) (.tmp 7) rfl (m.body.length : Int) rfl rfl Try.underlying30 (.string ByteArray.empty) 16 info9 rfl (by decide) (by omega) ByteArray.empty (ok := fun k => W2.heap.size ≤ k) (okp := fun k => W2.heap.size ≤ k) rfl (fun _ h => h) (Nat.le_refl _) (by omega) (by rw [Int.toNat_natCast]; omega) (Below.refl _ _) (Nat.le_refl _) ?_); (intro v1 w3 ho hb hg hat); (obtain ⟨A, c, hv1⟩ := Kd.R_slice ho); (rw [List.length_replicate, Int.toNat_natCast] at hv1); (subst hv1); (have c0 := blk_below B0'.out hb); (have c1 := blk_below B1'.out hb); (have c2 := blk_below B2'.out hb); (have x4 : w3.cell? ⟨w.heap.size + 1 + 1, 4, none⟩ = some (.slice B m.body.length d) := blk_cell c2 4); (have x5 : w3.frozen? ⟨w.heap.size + 1 + 1, 4, none⟩ = false := blk_frozen c2 4); (have y4 : w3.cell? ⟨w.heap.size, 4, none⟩ = some (.slice B m.body.length d) := blk_cell c0 4); (have HR := Aside0.mk ho); (have HB := Aside0.mk hb); (have C1 := Aside0.mk c1); (have C2 := Aside0.mk c2); clear ho hb hg hat c0 c1 c2) | ((with_reducible refine gate_copy (xs := #[.tmp 11, .tmp 13]) rfl ?_); (obtain ⟨u3, hu3⟩ : ∃ u, u = w3.setCell ⟨w.heap.size + 1 + 1, 4, none⟩ (.slice A m.body.length c) := ⟨_, rfl⟩); (rw [← hu3]); (have hR := R_set HR.out (w.heap.size + 1 + 1) 4 (.slice A m.body.length c) (by (have := S2.out; omega))); (have hB : Below w.heap.size w u3 := by (rw [hu3]; exact (below_then HB2.out HB2.out.size HB.out).setCell (by (show w.heap.size ≤ w.heap.size + 1 + 1; omega)) _)); (have hc2 := blk_put (cs' := #[.int .i64 m.src, .int .i64 m.dst, .int .i64 m.kind, .int .i64 m.pos, .slice A m.body.length c]) C2.out 4 (.slice A m.body.length c) rfl); (have hc1 := (Below.heap_setCell w3 ⟨w.heap.size + 1 + 1, 4, none⟩ (.slice A m.body.length c) (w.heap.size + 1) (by (show w.heap.size + 1 ≠ w.heap.size + 1 + 1; omega))).trans C1.out); (rw [← hu3] at hR hc1 hc2); (have HC1 := Aside0.mk hc1); (have HC2 := Aside0.mk hc2); (have hsu : W2.heap.size ≤ u3.heap.size := by (rw [hu3, setCell_size]; exact HB.out.size)); (have HSU := Lib.hid hsu); (clear hu3 x4 x5 y4 hc1 hc2 hsu); go_loud (refine R_copy_all Kd.string (Rr := fun x cs => cs = [.string x]) (w0 := w) w.heap.size rfl (.tmp 11) (.tmp 13) 30 30 9 rfl Try.underlying30 size9 (by decide) (.slice A m.body.length c) _ m.body B m.body.length d (fun k => W2.heap.size ≤ k) rfl rfl (Kd.R_lower hR (by (have := S2.out; omega))) (by rw [List.length_replicate, Int.toNat_natCast]) (Kd.C_below HC.out hB) (fun _ _ h _ _ => h) hB hB.size ?_); intro w4 ho2 hb2 hg2; (have hne : ∀ k, k < W2.heap.size → some k ≠ (Value.slice A m.body.length c).ownBlock := fun k hk he => by (have := hR.1 k he.symm; omega)); (have hc1 := (hg2.block _ (blk_lt HC1.out) (hne _ (by (have := S2.out; omega)))).trans HC1.out); (have hc2 := (hg2.block _ (blk_lt HC2.out) (hne _ (by (have := S2.out; omega)))).trans HC2.out); (have HR2 := Aside0.mk ho2); (have HB3 := Aside0.mk hb2); (have HS4 := Lib.hid (Nat.le_trans HSU.out hg2.size)); (have HC3 := Aside0.mk hc1); (have z0 : w4.cell? ⟨w.heap.size + 1 + 1, 0, none⟩ = some (.int .i64 m.src) := blk_cell hc2 0); (have z1 : w4.cell? ⟨w.heap.size + 1 + 1, 1, none⟩ = some (.int .i64 m.dst) := blk_cell hc2 1); (have z2 : w4.cell? ⟨w.heap.size + 1 + 1, 2, none⟩ = some (.int .i64 m.kind) := blk_cell hc2 2); (have z3 : w4.cell? ⟨w.heap.size + 1 + 1, 3, none⟩ = some (.int .i64 m.pos) := blk_cell hc2 3); (have z4 : w4.cell? ⟨w.heap.size + 1 + 1, 4, none⟩ = some (.slice A m.body.length c) := blk_cell hc2 4); (have y0 : w4.cell? ⟨w.heap.size + 1, 0, none⟩ = some (.int .i64 0) := blk_cell hc1 0); (have y1 : w4.cell? ⟨w.heap.size + 1, 1, none⟩ = some (.int .i64 0) := blk_cell hc1 1); (have y2 : w4.cell? ⟨w.heap.size + 1, 2, none⟩ = some (.int .i64 0) := blk_cell hc1 2); (have y3 : w4.cell? ⟨w.heap.size + 1, 3, none⟩ = some (.int .i64 0) := blk_cell hc1 3); (have y4 : w4.cell? ⟨w.heap.size + 1, 4, none⟩ = some (.slice none 0 0) := blk_cell hc1 4); (have y5 : ∀ i, w4.frozen? ⟨w.heap.size + 1, i, none⟩ = false := fun i => blk_frozen hc1 i); clear ho2 hb2 hg2 hc1 hc2 hne hR hB))
  obtain ⟨w5, hw5, b5, m5, s5⟩ := put5 HC3.out (.int .i64 m.src) (.int .i64 m.dst) (.int .i64 m.kind) (.int .i64 m.pos) (.slice A m.body.length c)
  rw [← hw5]
  have hs2 := S2.out
  have hs4 := HS4.out
  have hR5 : Kd.string.R 9 w5 w.heap.size (fun _ => True) (.slice A m.body.length c) m.body :=
    Kd.R_mono (R_up (N := W2.heap.size) HR2.out (fun q h => h) m5 (fun i hi => by omega)) (fun _ _ => trivial)
  obtain ⟨b, hb1, hb2, hR6⟩ := str_one hR5 (by omega)
  refine bodyPost_ret (results_cell_row rfl _ _ (w.heap.size + 1) 32 _ (0, 0) _ rfl b5 Try.underlying32 rfl (by kernel_rfl)) rfl ?_
  exact ⟨_, b, rfl, hR6, hb1, hb2, Mod.below HB3.out m5 (by omega) (fun i hi => by omega)⟩
end Go.Proofs.Ytlnneaccgfakeaa
