/- Layer 8: the walk of tableOf. -/
import Derived.Test.YtcmgdieeclninaaD23
set_option linter.unusedVariables false
set_option linter.unusedSimpArgs false
namespace Go.Proofs.Ytcmgdieeclninaa
open Go.RowKit Go.Proofs.YtcmgdieeclninaaW.PrintWords Go.Proofs.YtcmgdieeclninaaW.PrintLast
theorem three_at {α : Type} (l : List α) (i : Nat) (a b c : α) (h0 : l[i]? = some a) (h1 : l[i + 1]? = some b) (h2 : l[i + 2]? = some c) : (l.drop i).take 3 = [a, b, c] := by
  have e0 := (List.getElem?_eq_some_iff.1 h0)
  have e1 := (List.getElem?_eq_some_iff.1 h1)
  have e2 := (List.getElem?_eq_some_iff.1 h2)
  obtain ⟨p0, q0⟩ := e0
  obtain ⟨p1, q1⟩ := e1
  obtain ⟨p2, q2⟩ := e2
  rw [List.drop_eq_getElem_cons p0, List.drop_eq_getElem_cons p1, List.drop_eq_getElem_cons p2, q0, q1, q2]
  rfl
/-- An index's cells: cloned already, or as they were. -/
def IdxCell (w0 w : World) (B gi : Nat) (done : Bool) (x : Idx) (v : Value) : Prop :=
  if done then (Kd.int .i64).R 3 w B (fun q => B ≤ q ∧ some q ≠ some gi) v x.columns else Sl (Kd.int .i64) w0 v x.columns
/-- The indexes' row on its way: the first k have columns of their own. -/
structure IdxMid (w0 w : World) (B gi cap : Nat) (k : Nat) (xs : List Idx) : Prop where
  base : B ≤ gi
  blk : ∃ cur : Array Value, w.heap[gi]? = some (.cells cur 64 (0, 0)) ∧ cur.size = cap * 3 ∧ ∀ j x, xs[j]? = some x → cur[j * 3]? = some (.string x.name) ∧ cur[j * 3 + 2]? = some (.bool x.unique) ∧ ∃ v, cur[j * 3 + 1]? = some v ∧ IdxCell w0 w B gi (decide (j < k)) x v
  le : xs.length ≤ cap
  max : cap ≤ 9223372036854775807
theorem IdxMid.start {w0 w : World} {B : Nat} {v : Value} {xs : List Idx} {news : List Value} (ho : w.ownsRow B 64 3 v xs.length news) (hr : Reps (kIdx.K w0) 3 xs news) (hp : 0 < xs.length) :
    ∃ gi cap, v = .slice (some ⟨gi, 0, none⟩) xs.length cap ∧ IdxMid w0 w B gi cap 0 xs := by
  rcases ho.2 with ⟨_, hx0⟩ | ⟨g, cap, cur, hv, hb, hh, hnc2, hcm, hcs, htake⟩
  · omega
  · refine ⟨g, cap, hv, hb, ⟨cur, hh, hcs, fun j x hj => ?_⟩, hnc2, by simpa [maxLen] using hcm⟩
    have h1 := hr.2 j x hj
    rw [kIdx_K] at h1
    obtain ⟨v1, hv1, hs1⟩ := h1
    have hjl : j < xs.length := (List.getElem?_eq_some_iff.1 hj).1
    have hget : ∀ i, i < 3 → cur[j * 3 + i]? = ((news.drop (j * 3)).take 3)[i]? := by
      intro i hi
      rw [List.getElem?_take, if_pos hi, List.getElem?_drop, ← htake, List.getElem?_take, if_pos (by omega), Array.getElem?_toList]
    have h0 := hget 0 (by omega)
    have h1 := hget 1 (by omega)
    have h2 := hget 2 (by omega)
    rw [hv1] at h0 h1 h2
    exact ⟨by simpa using h0, by simpa using h2, v1, by simpa using h1, by unfold IdxCell; rw [if_neg (by simp)]; exact hs1⟩
theorem IdxMid.row {w0 w : World} {B gi cap : Nat} {xs : List Idx} (h : IdxMid w0 w B gi cap xs.length xs) : kIdx.R 64 w B (fun q => B ≤ q) (.slice (some ⟨gi, 0, none⟩) xs.length cap) xs := by
  obtain ⟨hb, ⟨cur, hh, hcs, hall⟩, hle, hmx⟩ := h
  refine ⟨fun k hk => ?_, cur.toList.take (xs.length * 3), ⟨?_, .inr ⟨gi, cap, cur, rfl, hb, hh, hle, by simpa [maxLen] using hmx, hcs, rfl⟩⟩, ?_, fun j x hj => ?_⟩
  · have : gi = k := by simpa [Value.ownBlock] using hk
    omega
  · have hcl : cur.toList.length = cap * 3 := (Array.length_toList).trans hcs
    rw [List.length_take, hcl]
    show min (xs.length * 3) (cap * 3) = xs.length * 3
    omega
  · have hcl : cur.toList.length = cap * 3 := (Array.length_toList).trans hcs
    rw [List.length_take, hcl]
    show min (xs.length * 3) (cap * 3) = xs.length * 3
    omega
  · have hjl : j < xs.length := (List.getElem?_eq_some_iff.1 hj).1
    obtain ⟨a0, a2, v, a1, hc⟩ := hall j x hj
    have hl : ((cur.toList.take (xs.length * 3)).drop (j * 3)).take 3 = [.string x.name, v, .bool x.unique] := by
      refine three_at _ _ _ _ _ ?_ ?_ ?_
      · rw [List.getElem?_take, if_pos (by omega), Array.getElem?_toList, a0]
      · rw [List.getElem?_take, if_pos (by omega), Array.getElem?_toList, a1]
      · rw [List.getElem?_take, if_pos (by omega), Array.getElem?_toList, a2]
    show kIdx.M w B _ x (((cur.toList.take (xs.length * 3)).drop (j * 3)).take 3)
    rw [hl, kIdx_M]
    refine ⟨v, rfl, ?_⟩
    unfold IdxCell at hc
    rw [if_pos (by simpa using hjl)] at hc
    exact hc
/-- What lies at the k-th. -/
theorem IdxMid.at_ {w0 w : World} {B gi cap k : Nat} {xs : List Idx} (h : IdxMid w0 w B gi cap k xs) (hk : k < xs.length) : ∃ x Ax cx, xs[k]? = some x ∧ w.cell? ⟨gi, k * 3 + 1, none⟩ = some (.slice Ax x.columns.length cx) ∧ w.frozen? ⟨gi, k * 3 + 1, none⟩ = false ∧ (Kd.int .i64).C w0 Ax x.columns.length x.columns := by
  obtain ⟨hb, ⟨cur, hh, hcs, hall⟩, hle, hmx⟩ := h
  obtain ⟨a0, a2, v, a1, hc⟩ := hall k _ (List.getElem?_eq_getElem hk)
  unfold IdxCell at hc
  rw [if_neg (by simp)] at hc
  obtain ⟨Ax, cx, rfl, hl, hC⟩ := hc
  exact ⟨_, Ax, cx, List.getElem?_eq_getElem hk, by rw [blk_cell hh, a1], blk_frozen hh _, hC⟩
/-- The k-th gets columns of its own. -/
theorem IdxMid.step {w0 w w1 : World} {B gi cap k : Nat} {xs : List Idx} {x : Idx} {v : Value} (h : IdxMid w0 w B gi cap k xs) (hx : xs[k]? = some x) (hb : Below w.heap.size w w1) (hB : B ≤ w.heap.size) (hR : (Kd.int .i64).R 3 w1 w.heap.size (fun _ => True) v x.columns) :
    IdxMid w0 (w1.setCell ⟨gi, k * 3 + 1, none⟩ v) B gi cap (k + 1) xs := by
  obtain ⟨hbs, ⟨cur, hh, hcs, hall⟩, hle, hmx⟩ := h
  have hlt := blk_lt hh
  refine ⟨hbs, ⟨cur.setIfInBounds (k * 3 + 1) v, blk_set (blk_below hh hb) _ _, by simpa using hcs, fun j y hj => ?_⟩, hle, hmx⟩
  obtain ⟨a0, a2, u, a1, hc⟩ := hall j y hj
  have hkl : k < xs.length := (List.getElem?_eq_some_iff.1 hx).1
  have hfar : (Kd.int .i64).R 3 (w1.setCell ⟨gi, k * 3 + 1, none⟩ v) B (fun q => B ≤ q ∧ some q ≠ some gi) v x.columns := by
    refine Kd.R_step (Kd.R_mono (Kd.R_lower (Kd.R_bound hR) hB) (fun q hq => ⟨by omega, by simp; omega⟩)) (fun q hq _ => ?_)
    exact Below.heap_setCell w1 ⟨gi, k * 3 + 1, none⟩ v q (by simpa using hq.2)
  by_cases hjk : j = k
  · subst hjk
    obtain rfl : y = x := by rw [hj] at hx; injection hx
    refine ⟨by rw [Array.getElem?_setIfInBounds_ne (by omega)]; exact a0, by rw [Array.getElem?_setIfInBounds_ne (by omega)]; exact a2, v, by rw [Array.getElem?_setIfInBounds, if_pos rfl, if_pos (by omega)], ?_⟩
    unfold IdxCell
    rw [if_pos (by simp)]
    exact hfar
  · refine ⟨by rw [Array.getElem?_setIfInBounds_ne (by omega)]; exact a0, by rw [Array.getElem?_setIfInBounds_ne (by omega)]; exact a2, u, by rw [Array.getElem?_setIfInBounds_ne (by omega)]; exact a1, ?_⟩
    unfold IdxCell at hc ⊢
    by_cases hlt2 : j < k
    · rw [if_pos (by simpa using hlt2)] at hc
      rw [if_pos (by simp; omega)]
      exact Kd.R_step hc (fun q hq hql => by rw [Below.heap_setCell w1 ⟨gi, k * 3 + 1, none⟩ v q (by simpa using hq.2), hb.block q hql])
    · rw [if_neg (by simpa using hlt2)] at hc
      rw [if_neg (by simp; omega)]
      exact hc
set_option maxRecDepth 100000 in
set_option maxHeartbeats 4000000 in
theorem tabOf_any (t : Tab) (A1 : Option Addr) (c1 : Nat) (A2 : Option Addr) (c2 : Nat) (A3 : Option Addr) (c3 : Nat) (w : World)
    (hC1 : kCol.C w A1 t.cols.length t.cols) (hC2 : (Kd.int .i64).C w A2 t.key.length t.key) (hC3 : kIdx.C w A3 t.idx.length t.idx) (hz : SzTab t) :
    Calls Try.prog 38 #[.agg #[.string t.name, .slice A1 t.cols.length c1, .slice A2 t.key.length c2, .int .i64 t.part, .slice A3 t.idx.length c3]] w fun e w' => ∃ v1 v2 v3, e = .returned (.agg #[.string t.name, v1, v2, .int .i64 t.part, v3]) ∧
      (kCol.R 62 w' w.heap.size (fun _ => True) v1 t.cols ∧ (Kd.int .i64).R 3 w' w.heap.size (fun _ => True) v2 t.key ∧ kIdx.R 64 w' w.heap.size (fun _ => True) v3 t.idx) ∧ Below w.heap.size w w' := by
  have HC1 := Aside0.mk hC1
  have HC2 := Aside0.mk hC2
  have HC3 := Aside0.mk hC3
  have hz1 : t.cols.length * 32 ≤ 140737488355328 := by have := hz.1; omega
  have hz2 : t.key.length * 8 ≤ 140737488355328 := by have := hz.2.1; omega
  have hz3 : t.idx.length * 48 ≤ 140737488355328 := by have := hz.2.2.1; omega
  have HZ4 := Lib.hid hz.2.2.2
  clear hC1 hC2 hC3 hz
  have hst := St2.start w (tabBox t A1 c1 A2 c2 A3 c3) zTab
  have hw0 : (w.alloc (Obj.cells #[.string t.name, .slice A1 t.cols.length c1, .slice A2 t.key.length c2, .int .i64 t.part, .slice A3 t.idx.length c3] 30)).alloc (Obj.cells #[Value.string { data := #[] }, Value.slice none 0 0, Value.slice none 0 0, Value.int IntKind.i64 0, Value.slice none 0 0] 30) = (w.alloc (tabBox t A1 c1 A2 c2 A3 c3)).alloc zTab := rfl
  obtain ⟨W, hW⟩ : ∃ W, W = (w.alloc (tabBox t A1 c1 A2 c2 A3 c3)).alloc zTab := ⟨_, rfl⟩
  rw [← hW] at hst hw0
  have HW0 := Aside0.mk hw0
  have S0 := Aside0.mk (hst.below (below_drew (Below.refl _ _)))
  have hWs : W.drew.heap.size = w.heap.size + 2 := by rw [hW]; show ((w.alloc _).alloc _).heap.size = _; simp
  have HWS := Lib.hid hWs
  clear hW hw0 hst hWs
  go_enter Try.func38, Try.ntmps38
  go_wp2_with fail
  rw [HW0.out]
  have q1 : W.drew.cell? ⟨w.heap.size, 1, none⟩ = some (.slice A1 t.cols.length c1) := blk_cell S0.out.b1 1
  have q2 : W.drew.cell? ⟨w.heap.size, 2, none⟩ = some (.slice A2 t.key.length c2) := blk_cell S0.out.b1 2
  have q3 : W.drew.cell? ⟨w.heap.size, 4, none⟩ = some (.slice A3 t.idx.length c3) := blk_cell S0.out.b1 4
  refine start_ (n := 15) (S := fun w' => w'.cell? ⟨w.heap.size, 1, none⟩ = some (.slice A1 t.cols.length c1) ∧ w'.cell? ⟨w.heap.size, 2, none⟩ = some (.slice A2 t.key.length c2) ∧ w'.cell? ⟨w.heap.size, 4, none⟩ = some (.slice A3 t.idx.length c3)) (ds := [10, 12, 14]) #[false, false, false, false, false, false, false, false, false, false, false, false, false, false, false] (by kernel_rfl) rfl rfl ⟨q1, q2, q3⟩ (fun hHeld => ?_)
  refine pure_ (i := 0) (N := some 4) (v := ?_) (a' := ?_) #[true, false, false, false, false, false, false, false, false, false, false, false, false, false, false] rfl rfl (by kernel_rfl) (fun _ _ _ h => h) (Or.inl ⟨by rfl, ?_⟩) ?_ ?_
  rotate_left
  · intro w'
    go_simp
    with_reducible rfl
  rotate_left
  · simp only [Act.put, List.setIfInBounds_toArray, List.set_cons_zero, List.set_cons_succ, i64_w, i32_w]
    rfl
  refine pure_ (i := 3) (N := some 7) (v := ?_) (a' := ?_) #[true, false, false, true, false, false, false, false, false, false, false, false, false, false, false] rfl rfl (by kernel_rfl) (fun _ _ _ h => h) (Or.inl ⟨by rfl, ?_⟩) ?_ ?_
  rotate_left
  · intro w'
    go_simp
    with_reducible rfl
  rotate_left
  · simp only [Act.put, List.setIfInBounds_toArray, List.set_cons_zero, List.set_cons_succ, i64_w, i32_w]
    rfl
  refine pure_ (i := 6) (N := some 10) (v := ?_) (a' := ?_) #[true, false, false, true, false, false, true, false, false, false, false, false, false, false, false] rfl rfl (by kernel_rfl) (fun _ _ _ h => h) (Or.inl ⟨by rfl, ?_⟩) ?_ ?_
  rotate_left
  · intro w'
    go_simp
    with_reducible rfl
  rotate_left
  · simp only [Act.put, List.setIfInBounds_toArray, List.set_cons_zero, List.set_cons_succ, i64_w, i32_w]
    rfl
  refine take_ (i := 1) (N := some 5) (v := ?_) (a' := ?_) #[true, true, false, true, false, false, true, false, false, false, false, false, false, false, false] rfl rfl (by kernel_rfl) (fun _ _ _ h => h) (Or.inl ⟨by rfl, ?_⟩) hHeld ?_ ?_
  rotate_left
  · rintro w' ⟨s0, s1, s2⟩
    go_simp
    with_reducible rfl
  rotate_left
  · simp only [Act.put, List.setIfInBounds_toArray, List.set_cons_zero, List.set_cons_succ, i64_w, i32_w]
    rfl
  refine take_ (i := 4) (N := some 8) (v := ?_) (a' := ?_) #[true, true, false, true, true, false, true, false, false, false, false, false, false, false, false] rfl rfl (by kernel_rfl) (fun _ _ _ h => h) (Or.inl ⟨by rfl, ?_⟩) hHeld ?_ ?_
  rotate_left
  · rintro w' ⟨s0, s1, s2⟩
    go_simp
    with_reducible rfl
  rotate_left
  · simp only [Act.put, List.setIfInBounds_toArray, List.set_cons_zero, List.set_cons_succ, i64_w, i32_w]
    rfl
  refine take_ (i := 7) (N := some 11) (v := ?_) (a' := ?_) #[true, true, false, true, true, false, true, true, false, false, false, false, false, false, false] rfl rfl (by kernel_rfl) (fun _ _ _ h => h) (Or.inl ⟨by rfl, ?_⟩) hHeld ?_ ?_
  rotate_left
  · rintro w' ⟨s0, s1, s2⟩
    go_simp
    with_reducible rfl
  rotate_left
  · simp only [Act.put, List.setIfInBounds_toArray, List.set_cons_zero, List.set_cons_succ, i64_w, i32_w]
    rfl
  refine one_ (i := 2) (N := some 6) #[true, true, true, true, true, false, true, true, false, false, false, false, false, false, false] rfl rfl (by kernel_rfl) (by decide) (fun K hK => ?_)
  refine goes_ Try.func72 (by kernel_rfl) rfl #[.slice A1 t.cols.length c1] (by rfl) rfl rfl (by simp only [List.map_toArray, List.map_cons, List.map_nil]; rfl) ?_
  with_reducible refine (clone72_any A1 c1 t.cols w W.drew S0.out.bel HC1.out hz1).mono ?_
  rintro e w1 ⟨v1, n1, rfl, ho1, hr1, hb1⟩
  refine ⟨_, rfl, ?_⟩
  obtain ⟨B1, e1, hv1⟩ := own_slice ho1
  subst hv1
  have S1 := Aside0.mk (S0.out.below hb1)
  have R1 := Aside0.mk (Cloned.row ho1 hr1 hb1 (fun x cs h w' base ok' => kCol_M.2 (kCol_K.1 h)))
  have hz5 := Lib.hid hb1.size
  clear ho1 hr1 hb1
  refine hK.out _ _ ⟨blk_cell S1.out.b1 1, blk_cell S1.out.b1 2, blk_cell S1.out.b1 4⟩ (fun hHeld => ?_)
  clear hK K
  refine norm_ (a' := ?_) ?_ ?_
  rotate_left
  · show Act.put _ (some 6) _ = _
    simp only [Act.put, List.setIfInBounds_toArray, List.set_cons_zero, List.set_cons_succ, i64_w, i32_w]
    rfl
  refine pure_ (i := 9) (N := some 13) (v := ?_) (a' := ?_) #[true, true, true, true, true, false, true, true, false, true, false, false, false, false, false] rfl rfl (by kernel_rfl) (fun _ _ _ h => h) (Or.inl ⟨by rfl, ?_⟩) ?_ ?_
  rotate_left
  · intro w'
    go_simp
    with_reducible rfl
  rotate_left
  · simp only [Act.put, List.setIfInBounds_toArray, List.set_cons_zero, List.set_cons_succ, i64_w, i32_w]
    rfl
  refine one_ (i := 5) (N := some 9) #[true, true, true, true, true, true, true, true, false, true, false, false, false, false, false] rfl rfl (by kernel_rfl) (by decide) (fun K hK => ?_)
  refine goes_ Try.func73 (by kernel_rfl) rfl #[.slice A2 t.key.length c2] (by rfl) rfl rfl (by simp only [List.map_toArray, List.map_cons, List.map_nil]; rfl) ?_
  with_reducible refine (clone73_any A2 c2 t.key w w1 S1.out.bel HC2.out hz2).mono ?_
  rintro e w2 ⟨v2, n2, rfl, ho2, hr2, hb2⟩
  refine ⟨_, rfl, ?_⟩
  obtain ⟨B2, e2, hv2⟩ := own_slice ho2
  subst hv2
  have S2 := Aside0.mk (S1.out.below hb2)
  have R2 := Aside0.mk (Cloned.row ho2 hr2 hb2 (fun x cs h w' base ok' => h))
  have R1b := Aside0.mk (Kd.R_below (Kd.R_bound R1.out) hb2)
  have hz6 := Lib.hid hb2.size
  clear ho2 hr2 hb2 R1
  refine hK.out _ _ ⟨blk_cell S2.out.b1 1, blk_cell S2.out.b1 2, blk_cell S2.out.b1 4⟩ (fun hHeld => ?_)
  clear hK K
  refine norm_ (a' := ?_) ?_ ?_
  rotate_left
  · show Act.put _ (some 9) _ = _
    simp only [Act.put, List.setIfInBounds_toArray, List.set_cons_zero, List.set_cons_succ, i64_w, i32_w]
    rfl
  refine one_ (i := 8) (N := some 12) #[true, true, true, true, true, true, true, true, true, true, false, false, false, false, false] rfl rfl (by kernel_rfl) (by decide) (fun K hK => ?_)
  refine goes_ Try.func74 (by kernel_rfl) rfl #[.slice A3 t.idx.length c3] (by rfl) rfl rfl (by simp only [List.map_toArray, List.map_cons, List.map_nil]; rfl) ?_
  with_reducible refine (clone74_any A3 c3 t.idx w w2 S2.out.bel HC3.out hz3).mono ?_
  rintro e w3 ⟨v3, n3, rfl, ho3, hr3, hb3⟩
  refine ⟨_, rfl, ?_⟩
  obtain ⟨B3, e3, hv3⟩ := own_slice ho3
  subst hv3
  have S3 := Aside0.mk (S2.out.below hb3)
  have R1c := Aside0.mk (Kd.R_below R1b.out hb3)
  have R2c := Aside0.mk (Kd.R_below (Kd.R_bound R2.out) hb3)
  have O3 := Aside0.mk ho3
  have N3 := Aside0.mk hr3
  have hz7 := Lib.hid hb3.size
  clear ho3 hr3 hb3 R1b R2
  refine hK.out _ _ ⟨blk_cell S3.out.b1 1, blk_cell S3.out.b1 2, blk_cell S3.out.b1 4⟩ (fun hHeld => ?_)
  clear hK K
  refine norm_ (a' := ?_) ?_ ?_
  rotate_left
  · show Act.put _ (some 12) _ = _
    simp only [Act.put, List.setIfInBounds_toArray, List.set_cons_zero, List.set_cons_succ, i64_w, i32_w]
    rfl
  refine last_ (i := 10) (N := none) #[true, true, true, true, true, true, true, true, true, true, true, false, false, false, false] rfl rfl (by kernel_rfl) (by decide) (fun K hK => ?_)
  have y1 := blk_cell S3.out.b1 1
  have y2 := blk_frozen S3.out.b1 1
  have y3 := blk_cell S3.out.b1 2
  have y4 := blk_frozen S3.out.b1 2
  have y5 := blk_cell S3.out.b1 4
  have y6 := blk_frozen S3.out.b1 4
  refine skip_ (w1 := ?_) (by rfl) rfl ?_ ?_
  rotate_left
  · go_simp
    rfl
  refine hK.out _ _ ?_
  clear hK K
  refine pure_ (i := 11) (N := some 14) (v := ?_) (a' := ?_) #[true, true, true, true, true, true, true, true, true, true, true, true, false, false, false] rfl rfl (by kernel_rfl) (fun _ _ _ h => h) (Or.inl ⟨by rfl, ?_⟩) ?_ ?_
  rotate_left
  · intro w'
    go_simp
    with_reducible rfl
  rotate_left
  · simp only [Act.put, List.setIfInBounds_toArray, List.set_cons_zero, List.set_cons_succ, i64_w, i32_w]
    rfl
  refine last_ (i := 12) (N := none) #[true, true, true, true, true, true, true, true, true, true, true, true, true, false, false] rfl rfl (by kernel_rfl) (by decide) (fun K hK => ?_)
  refine skip_ (w1 := ?_) (by rfl) rfl ?_ ?_
  rotate_left
  · go_simp
    rfl
  refine hK.out _ _ ?_
  clear hK K
  refine pure_ (i := 13) (N := some 15) (v := ?_) (a' := ?_) #[true, true, true, true, true, true, true, true, true, true, true, true, true, true, false] rfl rfl (by kernel_rfl) (fun _ _ _ h => h) (Or.inl ⟨by rfl, ?_⟩) ?_ ?_
  rotate_left
  · intro w'
    go_simp
    with_reducible rfl
  rotate_left
  · simp only [Act.put, List.setIfInBounds_toArray, List.set_cons_zero, List.set_cons_succ, i64_w, i32_w]
    rfl
  refine last_ (i := 14) (N := none) #[true, true, true, true, true, true, true, true, true, true, true, true, true, true, true] rfl rfl (by kernel_rfl) (by decide) (fun K hK => ?_)
  refine skip_ (w1 := ?_) (by rfl) rfl ?_ ?_
  rotate_left
  · go_simp
    rfl
  refine hK.out _ _ ?_
  clear hK K
  refine done_ (by kernel_rfl) ?_
  have S4 : Aside0 (St2 w _ (oTab t (.slice B1 t.cols.length e1) (.slice B2 t.key.length e2) (.slice B3 t.idx.length e3)) zTab) := Aside0.mk (((S3.out.set1 1 (.slice B1 t.cols.length e1) rfl).set1 2 (.slice B2 t.key.length e2) rfl).set1 4 (.slice B3 t.idx.length e3) rfl)
  have m4 := ((mod_setCell w3 w.heap.size 1 (.slice B1 t.cols.length e1)).trans (mod_setCell _ _ 2 (.slice B2 t.key.length e2))).trans (mod_setCell _ _ 4 (.slice B3 t.idx.length e3))
  obtain ⟨w4, hw4⟩ : ∃ u, u = ((w3.setCell ⟨w.heap.size, 1, none⟩ (.slice B1 t.cols.length e1)).setCell ⟨w.heap.size, 2, none⟩ (.slice B2 t.key.length e2)).setCell ⟨w.heap.size, 4, none⟩ (.slice B3 t.idx.length e3) := ⟨_, rfl⟩
  rw [← hw4]
  rw [← hw4] at S4 m4
  have M4 := Aside0.mk m4
  clear y1 y2 y3 y4 y5 y6 m4 hw4 q1 q2 q3 hHeld
  obtain ⟨B, hB⟩ : ∃ B, B = w2.heap.size := ⟨_, rfl⟩
  have hBw : w.heap.size + 2 ≤ B := by rw [hB]; exact S2.out.sz
  have HR1 := Aside0.mk (Kd.R_lower (base' := w.heap.size) (Kd.R_mono (ok' := fun q => w.heap.size + 2 ≤ q ∧ q < B) (Kd.R_step R1c.out (fun i hi _ => M4.out.block i (by have := hi.2.2.1; have := hz6.out; have := hz7.out; omega) (by have := hi.2.1; have := HWS.out; omega))) (fun q hq => ⟨by have := hq.2.1; have := HWS.out; omega, by have := hq.2.2.1; have := hz6.out; omega⟩)) (by have := HWS.out; omega))
  have HR2 := Aside0.mk (Kd.R_lower (base' := w.heap.size) (Kd.R_mono (ok' := fun q => w.heap.size + 2 ≤ q ∧ q < B) (Kd.R_step R2c.out (fun i hi _ => M4.out.block i (by have := hi.2.2.1; have := hz7.out; omega) (by have := hi.2.1; have := S1.out.sz; omega))) (fun q hq => ⟨by have := hq.2.1; have := S1.out.sz; omega, by have := hq.2.2.1; omega⟩)) (by have := S1.out.sz; omega))
  have HO4 : Aside0 (w4.ownsRow B 64 3 (.slice B3 t.idx.length e3) t.idx.length n3) := ⟨by
    rw [hB]
    exact own_move O3.out (fun q hq => M4.out.block q (own_lt O3.out q hq) (by have := own_base O3.out q hq; have := S2.out.sz; omega))⟩
  have HM0 : Aside0 (0 < t.idx.length → ∃ gi cap, B3 = some ⟨gi, 0, none⟩ ∧ e3 = cap ∧ IdxMid w w4 B gi cap 0 t.idx) := ⟨fun hp => by
    obtain ⟨gi, cap, hv, hm⟩ := IdxMid.start O3.out N3.out hp
    injection hv with h1 h2 h3
    refine ⟨gi, cap, h1, h3, ?_⟩
    rw [hB]
    obtain ⟨hb, ⟨cur, hh, hcs, hall⟩, hle, hmx⟩ := hm
    exact ⟨hb, ⟨cur, blk_mod hh M4.out (by have := S2.out.sz; omega), hcs, fun j x hj => by
      obtain ⟨a0, a2, v, a1, hc⟩ := hall j x hj
      refine ⟨a0, a2, v, a1, ?_⟩
      unfold IdxCell at hc ⊢
      rw [if_neg (by simp)] at hc ⊢
      exact hc⟩, hle, hmx⟩⟩
  have hB4 : B ≤ w4.heap.size := by have := M4.out.size; have := hz7.out; omega
  have HB4 := Lib.hid hB4
  have HBW := Lib.hid hBw
  have HN3 := Lib.hid O3.out.1
  have hlen3 : t.idx.length ≤ 9223372036854775807 := by omega
  clear S0 S1 S2 S3 R1c R2c O3 N3 M4 hz5 hz6 hz7 hB hB4 hBw HW0 HWS
  have x5 : w4.cell? ⟨w.heap.size, 4, none⟩ = some (.slice B3 t.idx.length e3) := blk_cell S4.out.b1 4
  go_wp2_with fail
  clear x5
  go_loopg [3, 19] t.idx.length (fun gn u i wr => ∃ k : Nat, i = .int .i64 k ∧ Aside0 (k + gn = t.idx.length) ∧ Aside0 (Mod w4 wr (fun k => B ≤ k ∧ 0 < t.idx.length)) ∧ Aside0 (0 < t.idx.length → ∃ gi cap, B3 = some ⟨gi, 0, none⟩ ∧ e3 = cap ∧ IdxMid w wr B gi cap k t.idx))
  case atStart => exact ⟨0, rfl, ⟨by omega⟩, ⟨Mod.refl _ _⟩, HM0⟩
  case round =>
    obtain ⟨k, rfl, ⟨hgn⟩, hM, hI⟩ := hrel
    have HGN := Lib.hid hgn
    clear hgn HM0
    have SR := Aside0.mk (S4.out.mod hM.out (fun i hi => by have := HBW.out; have := hi.1; omega))
    by_cases hk : k < t.idx.length
    · obtain ⟨gi, cap, rfl, rfl, hmid⟩ := hI.out (by omega)
      obtain ⟨x, Ax, cx, hx, hc1, hf1, hCx⟩ := hmid.at_ hk
      have hzx := HZ4.out x (List.mem_of_getElem? hx)
      have HMID := Aside0.mk hmid
      have HX := Lib.hid hx
      have HCX := Aside0.mk hCx
      have p0 : (0 : Int) ≤ k := by omega
      have p1 : (k : Int) < t.idx.length := by omega
      have hgi : gi < wr.heap.size := by obtain ⟨cur, hh, _⟩ := hmid.blk; exact blk_lt hh
      have hBr : B ≤ wr.heap.size := by have := HB4.out; have := hM.out.size; omega
      have hgb := hmid.base
      clear hmid hx hCx hI
      go_wp2_with fail
      have hcd : wr.drew.cell? ⟨gi, k * 3 + 1, none⟩ = some (.slice Ax x.columns.length cx) := hc1
      have hxd : wr.drew.cell? ⟨w.heap.size, 4, none⟩ = some (.slice (some ⟨gi, 0, none⟩) t.idx.length e3) := blk_cell SR.out.b1 4
      have SRd := Aside0.mk (SR.out.below (below_drew (Below.refl _ _)))
      refine start_ (n := 13) (S := fun w' => w'.cell? ⟨gi, k * 3 + 1, none⟩ = some (.slice Ax x.columns.length cx) ∧ w'.cell? ⟨w.heap.size, 4, none⟩ = some (.slice (some ⟨gi, 0, none⟩) t.idx.length e3)) (ds := [12]) #[false, false, false, false, false, false, false, false, false, false, false, false, false] (by kernel_rfl) rfl rfl ⟨hcd, hxd⟩ (fun hHeld => ?_)
      refine pure_ (i := 0) (N := some 22) (v := ?_) (a' := ?_) #[true, false, false, false, false, false, false, false, false, false, false, false, false] rfl rfl (by kernel_rfl) (fun _ _ _ h => h) (Or.inl ⟨by rfl, ?_⟩) ?_ ?_
      rotate_left
      · intro w'
        go_simp
        with_reducible rfl
      rotate_left
      · simp only [Act.put, List.setIfInBounds_toArray, List.set_cons_zero, List.set_cons_succ, i64_w, i32_w]
        rfl
      refine pure_ (i := 2) (N := some 24) (v := ?_) (a' := ?_) #[true, false, true, false, false, false, false, false, false, false, false, false, false] rfl rfl (by kernel_rfl) (fun _ _ _ h => h) (Or.inl ⟨by rfl, ?_⟩) ?_ ?_
      rotate_left
      · intro w'
        go_simp
        with_reducible rfl
      rotate_left
      · simp only [Act.put, List.setIfInBounds_toArray, List.set_cons_zero, List.set_cons_succ, i64_w, i32_w]
        rfl
      refine pure_ (i := 3) (N := some 25) (v := ?_) (a' := ?_) #[true, false, true, true, false, false, false, false, false, false, false, false, false] rfl rfl (by kernel_rfl) (fun _ _ _ h => h) (Or.inl ⟨by rfl, ?_⟩) ?_ ?_
      rotate_left
      · intro w'
        go_simp
        with_reducible rfl
      rotate_left
      · simp only [Act.put, List.setIfInBounds_toArray, List.set_cons_zero, List.set_cons_succ, i64_w, i32_w]
        rfl
      refine pure_ (i := 5) (N := some 27) (v := ?_) (a' := ?_) #[true, false, true, true, false, true, false, false, false, false, false, false, false] rfl rfl (by kernel_rfl) (fun _ _ _ h => h) (Or.inl ⟨by rfl, ?_⟩) ?_ ?_
      rotate_left
      · intro w'
        go_simp
        with_reducible rfl
      rotate_left
      · simp only [Act.put, List.setIfInBounds_toArray, List.set_cons_zero, List.set_cons_succ, i64_w, i32_w]
        rfl
      refine take_ (i := 1) (N := some 23) (v := ?_) (a' := ?_) #[true, true, true, true, false, true, false, false, false, false, false, false, false] rfl rfl (by kernel_rfl) (fun _ _ _ h => h) (Or.inl ⟨by rfl, ?_⟩) hHeld ?_ ?_
      rotate_left
      · rintro w' ⟨s0, s1⟩
        go_simp
        with_reducible rfl
      rotate_left
      · simp only [Act.put, List.setIfInBounds_toArray, List.set_cons_zero, List.set_cons_succ, i64_w, i32_w]
        rfl
      refine take_ (i := 4) (N := some 26) (v := ?_) (a' := ?_) #[true, true, true, true, true, true, false, false, false, false, false, false, false] rfl rfl (by kernel_rfl) (fun _ _ _ h => h) (Or.inl ⟨by rfl, ?_⟩) hHeld ?_ ?_
      rotate_left
      · rintro w' ⟨s0, s1⟩
        go_simp
        with_reducible rfl
      rotate_left
      · simp only [Act.put, List.setIfInBounds_toArray, List.set_cons_zero, List.set_cons_succ, i64_w, i32_w]
        rfl
      refine pure_ (i := 6) (N := some 28) (v := ?_) (a' := ?_) #[true, true, true, true, true, true, true, false, false, false, false, false, false] rfl rfl (by kernel_rfl) (fun _ _ _ h => h) (Or.inl ⟨by rfl, ?_⟩) ?_ ?_
      rotate_left
      · intro w'
        go_simp
        with_reducible rfl
      rotate_left
      · simp only [Act.put, List.setIfInBounds_toArray, List.set_cons_zero, List.set_cons_succ, i64_w, i32_w]
        rfl
      refine pure_ (i := 7) (N := some 29) (v := ?_) (a' := ?_) #[true, true, true, true, true, true, true, true, false, false, false, false, false] rfl rfl (by kernel_rfl) (fun _ _ _ h => h) (Or.inl ⟨by rfl, ?_⟩) ?_ ?_
      rotate_left
      · intro w'
        go_simp
        with_reducible rfl
      rotate_left
      · simp only [Act.put, List.setIfInBounds_toArray, List.set_cons_zero, List.set_cons_succ, i64_w, i32_w]
        rfl
      refine take_ (i := 8) (N := some 30) (v := ?_) (a' := ?_) #[true, true, true, true, true, true, true, true, true, false, false, false, false] rfl rfl (by kernel_rfl) (fun _ _ _ h => h) (Or.inl ⟨by rfl, ?_⟩) hHeld ?_ ?_
      rotate_left
      · rintro w' ⟨s0, s1⟩
        go_simp
        with_reducible rfl
      rotate_left
      · simp only [Act.put, List.setIfInBounds_toArray, List.set_cons_zero, List.set_cons_succ, i64_w, i32_w]
        rfl
      refine one_ (i := 9) (N := some 31) #[true, true, true, true, true, true, true, true, true, true, false, false, false] rfl rfl (by kernel_rfl) (by decide) (fun K hK => ?_)
      refine goes_ Try.func73 (by kernel_rfl) rfl #[.slice Ax x.columns.length cx] (by rfl) rfl rfl (by simp only [List.map_toArray, List.map_cons, List.map_nil]; rfl) ?_
      with_reducible refine (clone73_any Ax cx x.columns w wr.drew SRd.out.bel HCX.out (by omega)).mono ?_
      rintro e w5 ⟨v5, n5, rfl, ho5, hr5, hb5⟩
      refine ⟨_, rfl, ?_⟩
      obtain ⟨B5, e5, hv5⟩ := own_slice ho5
      subst hv5
      have S5 := Aside0.mk (SRd.out.below hb5)
      have R5 := Aside0.mk (Cloned.row ho5 hr5 hb5 (fun x cs h w' base ok' => h))
      have H5 := Aside0.mk hb5
      clear ho5 hr5 hb5
      refine hK.out _ _ ⟨(H5.out.cell hgi).trans hcd, blk_cell S5.out.b1 4⟩ (fun hHeld => ?_)
      clear hK K
      refine norm_ (a' := ?_) ?_ ?_
      rotate_left
      · show Act.put _ (some 31) _ = _
        simp only [Act.put, List.setIfInBounds_toArray, List.set_cons_zero, List.set_cons_succ, i64_w, i32_w]
        rfl
      refine pure_ (i := 10) (N := some 32) (v := ?_) (a' := ?_) #[true, true, true, true, true, true, true, true, true, true, true, false, false] rfl rfl (by kernel_rfl) (fun _ _ _ h => h) (Or.inl ⟨by rfl, ?_⟩) ?_ ?_
      rotate_left
      · intro w'
        go_simp
        with_reducible rfl
      rotate_left
      · simp only [Act.put, List.setIfInBounds_toArray, List.set_cons_zero, List.set_cons_succ, i64_w, i32_w]
        rfl
      refine pure_ (i := 11) (N := some 33) (v := ?_) (a' := ?_) #[true, true, true, true, true, true, true, true, true, true, true, true, false] rfl rfl (by kernel_rfl) (fun _ _ _ h => h) (Or.inl ⟨by rfl, ?_⟩) ?_ ?_
      rotate_left
      · intro w'
        go_simp
        with_reducible rfl
      rotate_left
      · simp only [Act.put, List.setIfInBounds_toArray, List.set_cons_zero, List.set_cons_succ, i64_w, i32_w]
        rfl
      refine last_ (i := 12) (N := none) #[true, true, true, true, true, true, true, true, true, true, true, true, true] rfl rfl (by kernel_rfl) (by decide) (fun K hK => ?_)
      have y1 := (H5.out.cell (p := ⟨gi, k * 3 + 1, none⟩) hgi).trans hcd
      have y2 : w5.frozen? ⟨gi, k * 3 + 1, none⟩ = false := (H5.out.frozen (p := ⟨gi, k * 3 + 1, none⟩) hgi).trans hf1
      refine skip_ (w1 := ?_) (by rfl) rfl ?_ ?_
      rotate_left
      · go_simp
        rfl
      refine hK.out _ _ ?_
      clear hK K
      refine done_ (by kernel_rfl) ?_
      have hm5 : Mod wr w5 (fun q => B ≤ q ∧ 0 < t.idx.length) := (Mod.of_below H5.out : Mod wr.drew w5 _) |> fun h => ⟨h.os, h.tape, h.output, h.size, h.block⟩
      have hst := HMID.out.step HX.out (show Below wr.heap.size wr w5 from ⟨H5.out.os, H5.out.tape, H5.out.output, H5.out.size, H5.out.block⟩) hBr R5.out
      have hm6 := hM.out.trans (hm5.trans ((mod_setCell w5 gi (k * 3 + 1) (.slice B5 x.columns.length e5)).mono (fun i hi => ⟨by omega, by omega⟩)))
      obtain ⟨w6, hw6⟩ : ∃ u, u = w5.setCell ⟨gi, k * 3 + 1, none⟩ (.slice B5 x.columns.length e5) := ⟨_, rfl⟩
      rw [← hw6]
      rw [← hw6] at hst hm6
      have HST := Aside0.mk hst
      have HM6 := Aside0.mk hm6
      clear y1 y2 hst hm5 hm6 hw6 R5 H5 S5 hcd hxd SRd hHeld
      go_wp2_with fail
      go_roundg (t.idx.length - (k + 1))
      case measure => have := HGN.out; omega
      case rel => exact ⟨k + 1, by go_num, ⟨by have := HGN.out; omega⟩, HM6, ⟨fun _ => ⟨gi, e3, rfl, rfl, HST.out⟩⟩⟩
    · have hE3 : kIdx.R 64 wr B (fun q => B ≤ q) (.slice B3 t.idx.length e3) t.idx := by
        rcases Nat.eq_zero_or_pos t.idx.length with h0 | hp
        · obtain rfl : n3 = [] := List.eq_nil_of_length_eq_zero (by have := HO4.out.1; omega)
          have h9 : t.idx = [] := List.eq_nil_of_length_eq_zero h0
          have h8 := own_move (w1 := wr) HO4.out (fun q hq => hM.out.block q (own_lt HO4.out q hq) (by omega))
          rw [h9] at h8 ⊢
          exact ⟨fun q hq => own_base h8 q hq, [], h8, Reps.none _ _⟩
        · obtain ⟨gi, cap, rfl, rfl, hmid⟩ := hI.out hp
          obtain rfl : k = t.idx.length := by have := HGN.out; omega
          exact hmid.row
      have y0 : wr.cell? ⟨w.heap.size, 0, none⟩ = some (.string t.name) := blk_cell SR.out.b1 0
      have y1 : wr.cell? ⟨w.heap.size, 1, none⟩ = some (.slice B1 t.cols.length e1) := blk_cell SR.out.b1 1
      have y2 : wr.cell? ⟨w.heap.size, 2, none⟩ = some (.slice B2 t.key.length e2) := blk_cell SR.out.b1 2
      have y3 : wr.cell? ⟨w.heap.size, 3, none⟩ = some (.int .i64 t.part) := blk_cell SR.out.b1 3
      have y4 : wr.cell? ⟨w.heap.size, 4, none⟩ = some (.slice B3 t.idx.length e3) := blk_cell SR.out.b1 4
      have z0 : wr.cell? ⟨w.heap.size + 1, 0, none⟩ = some (.string ⟨#[]⟩) := blk_cell SR.out.b2 0
      have z1 : wr.cell? ⟨w.heap.size + 1, 1, none⟩ = some (.slice none 0 0) := blk_cell SR.out.b2 1
      have z2 : wr.cell? ⟨w.heap.size + 1, 2, none⟩ = some (.slice none 0 0) := blk_cell SR.out.b2 2
      have z3 : wr.cell? ⟨w.heap.size + 1, 3, none⟩ = some (.int .i64 0) := blk_cell SR.out.b2 3
      have z4 : wr.cell? ⟨w.heap.size + 1, 4, none⟩ = some (.slice none 0 0) := blk_cell SR.out.b2 4
      have k0 : ∀ i, wr.frozen? ⟨w.heap.size + 1, i, none⟩ = false := fun i => blk_frozen SR.out.b2 i
      have HE3 := Aside0.mk hE3
      clear hE3
      go_wp2_with fail
      have hE := ((((SR.out.set2 0 (.string t.name) rfl).set2 1 (.slice B1 t.cols.length e1) rfl).set2 2 (.slice B2 t.key.length e2) rfl).set2 3 (.int .i64 t.part) rfl).set2 4 (.slice B3 t.idx.length e3) rfl
      have hm := ((((mod_setCell wr (w.heap.size + 1) 0 (.string t.name)).trans (mod_setCell _ _ 1 (.slice B1 t.cols.length e1))).trans (mod_setCell _ _ 2 (.slice B2 t.key.length e2))).trans (mod_setCell _ _ 3 (.int .i64 t.part))).trans (mod_setCell _ _ 4 (.slice B3 t.idx.length e3))
      refine bodyPost_ret (results_cell_row rfl _ _ (w.heap.size + 1) 30 #[.string t.name, .slice B1 t.cols.length e1, .slice B2 t.key.length e2, .int .i64 t.part, .slice B3 t.idx.length e3] (0, 0) _ rfl hE.b2 Try.underlying30 rfl (by kernel_rfl)) rfl ?_
      have hbw := HBW.out
      exact ⟨_, _, _, rfl, ⟨Kd.R_mono (Kd.R_lower (Kd.R_step (Kd.R_step HR1.out (fun i hi hl => hM.out.block i hl (by omega))) (fun i hi hl => hm.block i hl (by omega))) (by omega)) (fun _ _ => trivial), Kd.R_mono (Kd.R_lower (Kd.R_step (Kd.R_step HR2.out (fun i hi hl => hM.out.block i hl (by omega))) (fun i hi hl => hm.block i hl (by omega))) (by omega)) (fun _ _ => trivial), Kd.R_mono (Kd.R_lower (Kd.R_step HE3.out (fun i hi hl => hm.block i hl (by omega))) (by omega)) (fun _ _ => trivial)⟩, hE.bel⟩
end Go.Proofs.Ytcmgdieeclninaa
