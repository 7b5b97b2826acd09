/- Layer 8: the walk of procOf. -/
import Derived.Test.YtcmgdieeclninaaD21
import Derived.Test.YtcmgdieeclninaaD22
import Derived.Test.YtcmgdieeclninaaWLast
set_option linter.unusedVariables false
set_option linter.unusedSimpArgs false
namespace Go.Proofs.Ytcmgdieeclninaa
open Go.RowKit Go.Proofs.YtcmgdieeclninaaW.PrintWords Go.Proofs.YtcmgdieeclninaaW.PrintLast
/-- Two boxes on top of w, and what was below. -/
structure St2 (w u : World) (o1 o2 : Obj) : Prop where
  b1 : u.heap[w.heap.size]? = some o1
  b2 : u.heap[w.heap.size + 1]? = some o2
  bel : Below w.heap.size w u
  sz : w.heap.size + 2 ≤ u.heap.size
theorem St2.start (w : World) (o1 o2 : Obj) : St2 w ((w.alloc o1).alloc o2) o1 o2 := by
  have h2 := blk_alloc (w.alloc o1) o2
  rw [show (w.alloc o1).heap.size = w.heap.size + 1 from by simp] at h2
  exact ⟨blk_alloc' (blk_alloc w _), h2, below_alloc (below_alloc (Below.refl _ _) _) _, by simp⟩
theorem St2.mod {w u u' : World} {o1 o2 : Obj} {S : Nat → Prop} (h : St2 w u o1 o2) (k : Mod u u' S) (hS : ∀ i, S i → w.heap.size + 2 ≤ i) : St2 w u' o1 o2 :=
  ⟨blk_mod h.b1 k (fun hs => by have := hS _ hs; omega), blk_mod h.b2 k (fun hs => by have := hS _ hs; omega), Mod.below h.bel k (by have := h.sz; omega) (fun i hs => by have := hS _ hs; omega), Nat.le_trans h.sz k.size⟩
theorem St2.below {w u u' : World} {o1 o2 : Obj} (h : St2 w u o1 o2) (k : Below u.heap.size u u') : St2 w u' o1 o2 := h.mod (S := fun _ => False) (Mod.of_below k) (fun _ h => h.elim)
theorem St2.set1 {w u : World} {o2 : Obj} {cs cs' : Array Value} {e : TypeId} (h : St2 w u (.cells cs e (0, 0)) o2) (i : Nat) (v : Value) (he : cs.setIfInBounds i v = cs') : St2 w (u.setCell ⟨w.heap.size, i, none⟩ v) (.cells cs' e (0, 0)) o2 :=
  ⟨blk_put h.b1 i v he, blk_mod h.b2 (mod_setCell _ _ _ _) (by omega), Mod.below h.bel (mod_setCell _ _ _ _) (by have := h.sz; omega) (fun i hi => by omega), by rw [setCell_size]; exact h.sz⟩
theorem St2.set2 {w u : World} {o1 : Obj} {cs cs' : Array Value} {e : TypeId} (h : St2 w u o1 (.cells cs e (0, 0))) (i : Nat) (v : Value) (he : cs.setIfInBounds i v = cs') : St2 w (u.setCell ⟨w.heap.size + 1, i, none⟩ v) o1 (.cells cs' e (0, 0)) :=
  ⟨blk_mod h.b1 (mod_setCell _ _ _ _) (by omega), blk_put h.b2 i v he, Mod.below h.bel (mod_setCell _ _ _ _) (by have := h.sz; omega) (fun i hi => by omega), by rw [setCell_size]; exact h.sz⟩
set_option maxRecDepth 100000 in
set_option maxHeartbeats 4000000 in
theorem prcOf_any (p : Prc) (A1 : Option Addr) (c1 : Nat) (A2 : Option Addr) (c2 : Nat) (w : World)
    (hC1 : kPrm.C w A1 p.params.length p.params) (hC2 : Kd.string.C w A2 p.body.length p.body) (hz : SzPrc p) :
    Calls Try.prog 40 #[.agg #[.string p.name, .slice A1 p.params.length c1, .slice A2 p.body.length c2, .int .i64 p.rows, .int .i64 p.bytes]] w fun e w' => ∃ v1 v2, e = .returned (.agg #[.string p.name, v1, v2, .int .i64 p.rows, .int .i64 p.bytes]) ∧
      (kPrm.R 66 w' w.heap.size (fun _ => True) v1 p.params ∧ Kd.string.R 9 w' w.heap.size (fun _ => True) v2 p.body) ∧ Below w.heap.size w w' := by
  have HC1 := Aside0.mk hC1
  have HC2 := Aside0.mk hC2
  have hz1 : p.params.length * 24 ≤ 140737488355328 := by have := hz.1; omega
  have hz2 : p.body.length * 16 ≤ 140737488355328 := by have := hz.2; omega
  clear hC1 hC2 hz
  have hst := St2.start w (prcBox p A1 c1 A2 c2) zPrc
  have hw0 : (w.alloc (Obj.cells #[.string p.name, .slice A1 p.params.length c1, .slice A2 p.body.length c2, .int .i64 p.rows, .int .i64 p.bytes] 34)).alloc (Obj.cells #[Value.string { data := #[] }, Value.slice none 0 0, Value.slice none 0 0, Value.int IntKind.i64 0, Value.int IntKind.i64 0] 34) = (w.alloc (prcBox p A1 c1 A2 c2)).alloc zPrc := rfl
  obtain ⟨W, hW⟩ : ∃ W, W = (w.alloc (prcBox p A1 c1 A2 c2)).alloc zPrc := ⟨_, rfl⟩
  rw [← hW] at hst hw0
  have HW0 := Aside0.mk hw0
  have S0 := Aside0.mk (hst.below (below_drew (Below.refl _ _)))
  have hWs : W.heap.size = w.heap.size + 2 := by rw [hW]; simp
  have HWS := Lib.hid hWs
  clear hW hw0 hst hWs
  go_enter Try.func40, Try.ntmps40
  go_wp2_with fail
  rw [HW0.out]
  have q1 : W.drew.cell? ⟨w.heap.size, 1, none⟩ = some (.slice A1 p.params.length c1) := blk_cell S0.out.b1 1
  have q2 : W.drew.cell? ⟨w.heap.size, 2, none⟩ = some (.slice A2 p.body.length c2) := blk_cell S0.out.b1 2
  refine start_ (n := 10) (S := fun w' => w'.cell? ⟨w.heap.size, 1, none⟩ = some (.slice A1 p.params.length c1) ∧ w'.cell? ⟨w.heap.size, 2, none⟩ = some (.slice A2 p.body.length c2)) (ds := [7, 9]) #[false, false, false, false, false, false, false, false, false, false] (by kernel_rfl) rfl rfl ⟨q1, q2⟩ (fun hHeld => ?_)
  refine pure_ (i := 0) (N := some 3) (v := ?_) (a' := ?_) #[true, false, false, false, false, false, false, false, false, false] rfl rfl (by kernel_rfl) (fun _ _ _ h => h) (Or.inl ⟨by rfl, ?_⟩) ?_ ?_
  rotate_left
  · intro w'
    go_simp
    with_reducible rfl
  rotate_left
  · simp only [Act.put, List.setIfInBounds_toArray, List.set_cons_zero, List.set_cons_succ, i64_w, i32_w]
    rfl
  refine pure_ (i := 3) (N := some 6) (v := ?_) (a' := ?_) #[true, false, false, true, false, false, false, false, false, false] rfl rfl (by kernel_rfl) (fun _ _ _ h => h) (Or.inl ⟨by rfl, ?_⟩) ?_ ?_
  rotate_left
  · intro w'
    go_simp
    with_reducible rfl
  rotate_left
  · simp only [Act.put, List.setIfInBounds_toArray, List.set_cons_zero, List.set_cons_succ, i64_w, i32_w]
    rfl
  refine take_ (i := 1) (N := some 4) (v := ?_) (a' := ?_) #[true, true, false, true, false, false, false, false, false, false] rfl rfl (by kernel_rfl) (fun _ _ _ h => h) (Or.inl ⟨by rfl, ?_⟩) hHeld ?_ ?_
  rotate_left
  · rintro w' ⟨s0, s1⟩
    go_simp
    with_reducible rfl
  rotate_left
  · simp only [Act.put, List.setIfInBounds_toArray, List.set_cons_zero, List.set_cons_succ, i64_w, i32_w]
    rfl
  refine take_ (i := 4) (N := some 7) (v := ?_) (a' := ?_) #[true, true, false, true, true, false, false, false, false, false] rfl rfl (by kernel_rfl) (fun _ _ _ h => h) (Or.inl ⟨by rfl, ?_⟩) hHeld ?_ ?_
  rotate_left
  · rintro w' ⟨s0, s1⟩
    go_simp
    with_reducible rfl
  rotate_left
  · simp only [Act.put, List.setIfInBounds_toArray, List.set_cons_zero, List.set_cons_succ, i64_w, i32_w]
    rfl
  refine one_ (i := 2) (N := some 5) #[true, true, true, true, true, false, false, false, false, false] rfl rfl (by kernel_rfl) (by decide) (fun K hK => ?_)
  refine goes_ Try.func77 (by kernel_rfl) rfl #[.slice A1 p.params.length c1] (by rfl) rfl rfl (by simp only [List.map_toArray, List.map_cons, List.map_nil]; rfl) ?_
  with_reducible refine (clone77_any A1 c1 p.params w W.drew S0.out.bel HC1.out hz1).mono ?_
  rintro e w1 ⟨v1, n1, rfl, ho1, hr1, hb1⟩
  refine ⟨_, rfl, ?_⟩
  obtain ⟨B1, e1, hv1⟩ := own_slice ho1
  subst hv1
  have S1 := Aside0.mk (S0.out.below hb1)
  have R1 := Aside0.mk (Cloned.row ho1 hr1 hb1 (fun x cs h w' base ok' => kPrm_M.2 (kPrm_K.1 h)))
  clear ho1 hr1 hb1
  refine hK.out _ _ ⟨blk_cell S1.out.b1 1, blk_cell S1.out.b1 2⟩ (fun hHeld => ?_)
  clear hK K
  refine norm_ (a' := ?_) ?_ ?_
  rotate_left
  · show Act.put _ (some 5) _ = _
    simp only [Act.put, List.setIfInBounds_toArray, List.set_cons_zero, List.set_cons_succ, i64_w, i32_w]
    rfl
  refine pure_ (i := 6) (N := some 9) (v := ?_) (a' := ?_) #[true, true, true, true, true, false, true, false, false, false] rfl rfl (by kernel_rfl) (fun _ _ _ h => h) (Or.inl ⟨by rfl, ?_⟩) ?_ ?_
  rotate_left
  · intro w'
    go_simp
    with_reducible rfl
  rotate_left
  · simp only [Act.put, List.setIfInBounds_toArray, List.set_cons_zero, List.set_cons_succ, i64_w, i32_w]
    rfl
  refine one_ (i := 5) (N := some 8) #[true, true, true, true, true, true, true, false, false, false] rfl rfl (by kernel_rfl) (by decide) (fun K hK => ?_)
  refine goes_ Try.func78 (by kernel_rfl) rfl #[.slice A2 p.body.length c2] (by rfl) rfl rfl (by simp only [List.map_toArray, List.map_cons, List.map_nil]; rfl) ?_
  with_reducible refine (clone78_any A2 c2 p.body w w1 S1.out.bel HC2.out hz2).mono ?_
  rintro e w2 ⟨v2, n2, rfl, ho2, hr2, hb2⟩
  refine ⟨_, rfl, ?_⟩
  obtain ⟨B2, e2, hv2⟩ := own_slice ho2
  subst hv2
  have S2 := Aside0.mk (S1.out.below hb2)
  have R2 := Aside0.mk (Cloned.row ho2 hr2 hb2 (fun x cs h w' base ok' => h))
  have R1b := Aside0.mk (Kd.R_below R1.out hb2)
  have hsz2 := S1.out.sz
  clear ho2 hr2 hb2 R1
  refine hK.out _ _ ⟨blk_cell S2.out.b1 1, blk_cell S2.out.b1 2⟩ (fun hHeld => ?_)
  clear hK K
  refine norm_ (a' := ?_) ?_ ?_
  rotate_left
  · show Act.put _ (some 8) _ = _
    simp only [Act.put, List.setIfInBounds_toArray, List.set_cons_zero, List.set_cons_succ, i64_w, i32_w]
    rfl
  refine last_ (i := 7) (N := none) #[true, true, true, true, true, true, true, true, false, false] rfl rfl (by kernel_rfl) (by decide) (fun K hK => ?_)
  have y1 := blk_cell S2.out.b1 1
  have y2 := blk_frozen S2.out.b1 1
  have y3 := blk_cell S2.out.b1 2
  have y4 := blk_frozen S2.out.b1 2
  refine skip_ (w1 := ?_) (by rfl) rfl ?_ ?_
  rotate_left
  · go_simp
    rfl
  refine hK.out _ _ ?_
  clear hK K
  refine pure_ (i := 8) (N := some 10) (v := ?_) (a' := ?_) #[true, true, true, true, true, true, true, true, true, false] rfl rfl (by kernel_rfl) (fun _ _ _ h => h) (Or.inl ⟨by rfl, ?_⟩) ?_ ?_
  rotate_left
  · intro w'
    go_simp
    with_reducible rfl
  rotate_left
  · simp only [Act.put, List.setIfInBounds_toArray, List.set_cons_zero, List.set_cons_succ, i64_w, i32_w]
    rfl
  refine last_ (i := 9) (N := none) #[true, true, true, true, true, true, true, true, true, true] rfl rfl (by kernel_rfl) (by decide) (fun K hK => ?_)
  refine skip_ (w1 := ?_) (by rfl) rfl ?_ ?_
  rotate_left
  · go_simp
    rfl
  refine hK.out _ _ ?_
  clear hK K
  refine done_ (by kernel_rfl) ?_
  have S4 := Aside0.mk ((S2.out.set1 1 (.slice B1 p.params.length e1) rfl).set1 2 (.slice B2 p.body.length e2) rfl)
  have m4 := (mod_setCell w2 w.heap.size 1 (.slice B1 p.params.length e1)).trans (mod_setCell _ _ 2 (.slice B2 p.body.length e2))
  obtain ⟨w4, hw4⟩ : ∃ u, u = (w2.setCell ⟨w.heap.size, 1, none⟩ (.slice B1 p.params.length e1)).setCell ⟨w.heap.size, 2, none⟩ (.slice B2 p.body.length e2) := ⟨_, rfl⟩
  rw [← hw4]
  rw [← hw4] at S4 m4
  have M4 := Aside0.mk m4
  clear y1 y2 y3 y4 m4 hw4 q1 q2 hHeld
  have x0 : w4.cell? ⟨w.heap.size, 0, none⟩ = some (.string p.name) := blk_cell S4.out.b1 0
  have x1 : w4.cell? ⟨w.heap.size, 1, none⟩ = some (.slice B1 p.params.length e1) := blk_cell S4.out.b1 1
  have x2 : w4.cell? ⟨w.heap.size, 2, none⟩ = some (.slice B2 p.body.length e2) := blk_cell S4.out.b1 2
  have x3 : w4.cell? ⟨w.heap.size, 3, none⟩ = some (.int .i64 p.rows) := blk_cell S4.out.b1 3
  have x4 : w4.cell? ⟨w.heap.size, 4, none⟩ = some (.int .i64 p.bytes) := blk_cell S4.out.b1 4
  have z0 : w4.cell? ⟨w.heap.size + 1, 0, none⟩ = some (.string ⟨#[]⟩) := blk_cell S4.out.b2 0
  have z1 : w4.cell? ⟨w.heap.size + 1, 1, none⟩ = some (.slice none 0 0) := blk_cell S4.out.b2 1
  have z2 : w4.cell? ⟨w.heap.size + 1, 2, none⟩ = some (.slice none 0 0) := blk_cell S4.out.b2 2
  have z3 : w4.cell? ⟨w.heap.size + 1, 3, none⟩ = some (.int .i64 0) := blk_cell S4.out.b2 3
  have z4 : w4.cell? ⟨w.heap.size + 1, 4, none⟩ = some (.int .i64 0) := blk_cell S4.out.b2 4
  have k0 : ∀ i, w4.frozen? ⟨w.heap.size + 1, i, none⟩ = false := fun i => blk_frozen S4.out.b2 i
  go_wp2_with fail
  have hE := ((((S4.out.set2 0 (.string p.name) rfl).set2 1 (.slice B1 p.params.length e1) rfl).set2 2 (.slice B2 p.body.length e2) rfl).set2 3 (.int .i64 p.rows) rfl).set2 4 (.int .i64 p.bytes) rfl
  have hm := ((((mod_setCell w4 (w.heap.size + 1) 0 (.string p.name)).trans (mod_setCell _ _ 1 (.slice B1 p.params.length e1))).trans (mod_setCell _ _ 2 (.slice B2 p.body.length e2))).trans (mod_setCell _ _ 3 (.int .i64 p.rows))).trans (mod_setCell _ _ 4 (.int .i64 p.bytes))
  refine bodyPost_ret (results_cell_row rfl _ _ (w.heap.size + 1) 34 #[.string p.name, .slice B1 p.params.length e1, .slice B2 p.body.length e2, .int .i64 p.rows, .int .i64 p.bytes] (0, 0) _ rfl hE.b2 Try.underlying34 rfl (by kernel_rfl)) rfl ?_
  have hws := HWS.out
  exact ⟨_, _, rfl, ⟨Kd.R_mono (Kd.R_lower (Kd.R_step (Kd.R_step (Kd.R_bound R1b.out) (fun i hi hl => M4.out.block i hl (by have := hi.2.1; (have h3 : W.drew.heap.size = W.heap.size := rfl); omega))) (fun i hi hl => hm.block i hl (by have := hi.2.1; (have h3 : W.drew.heap.size = W.heap.size := rfl); omega))) (by (have h3 : W.drew.heap.size = W.heap.size := rfl); omega)) (fun _ _ => trivial), Kd.R_mono (Kd.R_lower (Kd.R_step (Kd.R_step (Kd.R_bound R2.out) (fun i hi hl => M4.out.block i hl (by have := hi.2.1; omega))) (fun i hi hl => hm.block i hl (by have := hi.2.1; omega))) (by omega)) (fun _ _ => trivial)⟩, hE.bel⟩
end Go.Proofs.Ytcmgdieeclninaa
