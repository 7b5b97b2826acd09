/- Layer 08: D48 awake -/
import Derived.Test.YtcmgdieeclninaaD47
import Derived.Test.YtcmgdieeclninaaWLast
set_option linter.unusedVariables false
set_option linter.unusedSimpArgs false
namespace Go.Proofs.Ytcmgdieeclninaa
open Go.RowKit Go.Proofs.YtcmgdieeclninaaW.PrintWords Go.Proofs.YtcmgdieeclninaaW.PrintLast
theorem C_block {α : Type} {d : Kd α} {e : Nat} {w : World} {g : Nat} {xs : List α} {cs : Array Value} (hg : w.heap[g]? = some (.cells cs e (0, 0))) (hm : xs.length ≤ 9223372036854775807)
    (hr : Reps (d.K w) d.sz xs cs.toList) : d.C w (some ⟨g, 0, none⟩) xs.length xs := by
  refine ⟨rfl, hm, fun _ => ⟨_, rfl, fun j p hp => ⟨_, ?_, hr.2 j p hp, fun i u hu => ?_⟩⟩⟩
  · have := d.K_len (hr.2 j p hp)
    exact this
  · have hi : i < d.sz := by
      have h1 := (List.getElem?_eq_some_iff.1 hu).1
      rw [List.length_take] at h1
      omega
    rw [List.getElem?_take_of_lt hi, List.getElem?_drop] at hu
    rw [add_plain, blk_cell hg]
    simpa using hu
/-- A table's cells as one reads them. -/
theorem kTab_one {w : World} {t : Tab} {A1 A2 A3 : Option Addr} {d1 d2 d3 : Nat} (h1 : kCol.C w A1 t.cols.length t.cols) (l1 : t.cols.length ≤ d1) (h2 : (Kd.int .i64).C w A2 t.key.length t.key) (l2 : t.key.length ≤ d2) (h3 : kIdx.C w A3 t.idx.length t.idx) (l3 : t.idx.length ≤ d3) :
    kTab.K w t [.string t.name, .slice A1 t.cols.length d1, .slice A2 t.key.length d2, .int .i64 t.part, .slice A3 t.idx.length d3] :=
  kTab_K.2 ⟨_, _, _, rfl, ⟨A1, d1, rfl, l1, h1⟩, ⟨A2, d2, rfl, l2, h2⟩, ⟨A3, d3, rfl, l3, h3⟩⟩
def c0 : Cat := ⟨[], []⟩
def c1 : Cat := ⟨[t0], []⟩
def t1 : Tab := { t0 with part := 1 }
theorem szT0 : SzTab t0 := ⟨by decide, by decide, by decide, by decide⟩
theorem szC0 : SzCat c0 := ⟨by decide, by decide, by simp [c0], by simp [c0]⟩
theorem szC1 : SzCat c1 := ⟨by decide, by decide, by simpa [c1] using szT0, by simp [c1]⟩
theorem right1 : RightCat c1 := by decide +kernel
theorem not1 : ¬ RightCat ⟨[t1], []⟩ := by decide +kernel
theorem add0 : addTab c0 t0 = (0, c1) := by decide +kernel
theorem add1 : addTab c1 t0 = (81, c0) := by decide +kernel
theorem wN_len1 (n : Nat) : 1 ≤ (wN n).length := List.length_pos_iff.2 (wN_ne n)
theorem dec1 {r : Int × Cat} (h : DecRel ⟨#[1]⟩ r) : r = (80, c0) := by
  refine h.2 fun c _ he => ?_
  have h1 := congrArg List.length he
  have h2 := wN_len1 c.tables.length
  have h3 := wN_len1 c.procs.length
  simp only [wCat, List.length_append, bytesOf_length] at h1
  have h4 : (ByteArray.mk #[1]).size = 1 := rfl
  omega
theorem enc1 : encO c1 = (⟨#[1, 1, 116, 2, 2, 105, 100, 1, 1, 1, 118, 3, 0, 1, 0, 0, 1, 4, 98, 121, 95, 118, 0, 1, 1, 0]⟩, 0) := by
  have h : wCat c1 = [1, 1, 116, 2, 2, 105, 100, 1, 1, 1, 118, 3, 0, 1, 0, 0, 1, 4, 98, 121, 95, 118, 0, 1, 1, 0] := by
    simp only [wCat, wTab, wT, wL, wC, wI, wF, c1, t0, List.length_cons, List.length_nil, List.flatMap_cons, List.flatMap_nil]
    repeat rw [wN_small (by decide)]
    decide +kernel
  unfold encO
  rw [if_pos right1, h]
  decide +kernel
theorem pos1 : foundV (posF (t0.cols.map (·.name)) ⟨#[118]⟩) = (.int .i64 1, .int .i64 0) := by
  have h : posF (t0.cols.map (·.name)) ⟨#[118]⟩ = 1 := by decide +kernel
  rw [h]; rfl
theorem pos2 : foundV (posF (c1.tables.map (·.name)) ⟨#[117]⟩) = (.int .i64 0, .int .i64 82) := by
  have h : posF (c1.tables.map (·.name)) ⟨#[117]⟩ = -1 := by decide +kernel
  rw [h]; rfl
/-- A table's value as an argument. -/
theorem vTab_open {base : Nat} {w : World} {v : Value} {t : Tab} (h : vTab base w v t) : ∃ A1 d1 A2 d2 A3 d3, v = .agg #[.string t.name, .slice A1 t.cols.length d1, .slice A2 t.key.length d2, .int .i64 t.part, .slice A3 t.idx.length d3] ∧ kCol.C w A1 t.cols.length t.cols ∧ (Kd.int .i64).C w A2 t.key.length t.key ∧ kIdx.C w A3 t.idx.length t.idx ∧ t.cols.length ≤ d1 ∧ t.key.length ≤ d2 ∧ t.idx.length ≤ d3 := by
  obtain ⟨v1, v2, v3, rfl, h1, h2, h3⟩ := h
  obtain ⟨A1, d1, rfl, l1, g1⟩ := Kd.R_reads h1
  obtain ⟨A2, d2, rfl, l2, g2⟩ := Kd.R_reads h2
  obtain ⟨A3, d3, rfl, l3, g3⟩ := Kd.R_reads h3
  exact ⟨A1, d1, A2, d2, A3, d3, rfl, g1, g2, g3, l1, l2, l3⟩
theorem CatOut.open_ {r : Int × Cat} {w w' : World} {e : Ending} (h : CatOut r w e w') : ∃ A1 d1 A2 d2, e = .returned (.tuple #[.agg #[.slice A1 r.2.tables.length d1, .slice A2 r.2.procs.length d2], .int .i64 r.1]) ∧ kTab.C w' A1 r.2.tables.length r.2.tables ∧ kPrc.C w' A2 r.2.procs.length r.2.procs ∧ Below w.heap.size w w' := by
  obtain ⟨v1, v2, rfl, ⟨h1, h2⟩, hb⟩ := h
  obtain ⟨A1, d1, rfl, _, g1⟩ := Kd.R_reads h1
  obtain ⟨A2, d2, rfl, _, g2⟩ := Kd.R_reads h2
  exact ⟨A1, d1, A2, d2, rfl, g1, g2, hb⟩
set_option maxRecDepth 100000 in
set_option maxHeartbeats 4000000 in
theorem awake_any (w : World) : Calls Try.prog 10 #[] w fun e w' => e = .returned (.bool true) ∧ Below w.heap.size w w' := by
  go_enter Try.func10, Try.ntmps10
  go_wp2_with fail
  refine (table_any w).mono ?_
  rintro e wa ⟨v, rfl, hv, hba⟩
  obtain ⟨X1, x1, X2, x2, X3, x3, rfl, hX1, hX2, hX3, _, _, _⟩ := vTab_open hv
  go_wp2_with fail
  refine (addTab_any c0 none 0 none 0 t0 X1 x1 X2 x2 X3 x3 wa (Kd.C_nil _ _) (Kd.C_nil _ _) szC0 hX1 hX2 hX3 szT0).mono ?_
  intro e wb hco
  rw [add0] at hco
  obtain ⟨A1, d1, A2, d2, rfl, hA1, hA2, hbb⟩ := hco.open_
  have hB0 := below_then hba hba.size hbb
  clear hX1 hX2 hX3 hv hco hba hbb
  obtain ⟨wc, hwc, bx, sc, hbc⟩ := grow (W := wb) rfl #[.slice A1 c1.tables.length d1, .slice A2 c1.procs.length d2] 25
  obtain ⟨g1, hg1⟩ : ∃ g, g = wb.heap.size := ⟨_, rfl⟩
  have hgw : w.heap.size ≤ g1 := by have := hB0.size; omega
  have hB := below_then hB0 hB0.size hbc
  rw [← hg1] at bx sc
  replace hA1 := Kd.C_below hA1 hbc
  replace hA2 := Kd.C_below hA2 hbc
  have f0 : wc.cell? ⟨g1, 0, none⟩ = some (.slice A1 c1.tables.length d1) := blk_cell bx 0
  have f1 : wc.cell? ⟨g1, 1, none⟩ = some (.slice A2 c1.procs.length d2) := blk_cell bx 1
  go_wp2_with fail
  rw [← hg1, ← hwc]
  have SC := Lib.hid sc
  clear hwc hg1 sc
  have hBl : Below wc.heap.size wc wc.drew := below_drew (Below.refl _ _)
  refine start_ (n := 9) (S := fun w' => w'.cell? ⟨g1, 0, none⟩ = some (.slice A1 c1.tables.length d1) ∧ w'.cell? ⟨g1, 1, none⟩ = some (.slice A2 c1.procs.length d2)) (ds := [7]) #[false, false, false, false, false, false, false, false, false] (by kernel_rfl) rfl rfl ⟨f0, f1⟩ (fun hHeld => ?_)
  refine take_ (i := 0) (N := some 31) (v := ?_) (a' := ?_) #[true, false, false, false, false, false, false, false, false] rfl rfl (by kernel_rfl) (fun _ _ _ h => h) (Or.inl ⟨by rfl, ?_⟩) hHeld ?_ ?_
  rotate_left
  · rintro w' ⟨s0, s1⟩
    go_simp
    with_reducible rfl
  rotate_left
  · simp only [Act.put, List.setIfInBounds_toArray, List.set_cons_zero, List.set_cons_succ, i64_w, i32_w]
    rfl
  refine join_ (σ := Value × Option Addr × Nat × Option Addr × Nat × Nat) 2 #[true, true, true, true, true, true, true, false, false] (fun s => [(32, s.1), (33, .tuple #[.agg #[.slice s.2.1 c0.tables.length s.2.2.1, .slice s.2.2.2.1 c0.procs.length s.2.2.2.2.1], .int .i64 81]), (3, .pointer (some ⟨s.2.2.2.2.2, 0, none⟩)), (30, .tuple #[.agg #[.slice s.2.1 c0.tables.length s.2.2.1, .slice s.2.2.2.1 c0.procs.length s.2.2.2.2.1], .int .i64 81]), (34, .agg #[.slice s.2.1 c0.tables.length s.2.2.1, .slice s.2.2.2.1 c0.procs.length s.2.2.2.2.1]), (35, .int .i64 81)]) (fun s w' => Below wc.heap.size wc w' ∧ w'.heap[s.2.2.2.2.2]? = some (Obj.cells #[.slice none 0 0, .slice none 0 0] 25 (0, 0)) ∧ wc.heap.size ≤ s.2.2.2.2.2) ?_ ?_
  rotate_left
  · intro hCont
    refine two_ (i := 1) (j := 6) (Ni := some 32) (Nj := some 3) #[true, true, false, false, false, false, false, false, false] #[true, false, false, false, false, false, true, false, false] rfl rfl rfl rfl (by kernel_rfl) (by decide) (by decide) (fun K hK => ?_) (fun K hK => ?_)
    · skip
      refine goes_ Try.func34 (by kernel_rfl) rfl #[] (by rfl) rfl rfl (by simp only [List.map_toArray, List.map_nil]) ?_
      with_reducible refine (table_any _).mono ?_
      rintro e w1 ⟨va, rfl, hva, hb1⟩
      refine ⟨_, rfl, ?_⟩
      obtain ⟨X1, x1, X2, x2, X3, x3, rfl, hX1, hX2, hX3, _, _, _⟩ := vTab_open hva
      replace hBl := below_then hBl hBl.size hb1
      refine hK.out _ _ ⟨pw_cell_below hb1 hHeld.1, pw_cell_below hb1 hHeld.2⟩ (fun hHeld => ?_)
      clear hK K
      refine norm_ (a' := ?_) ?_ ?_
      rotate_left
      · show Act.put _ (some 32) _ = _
        simp only [Act.put, List.setIfInBounds_toArray, List.set_cons_zero, List.set_cons_succ, i64_w, i32_w]
        rfl
      refine two_ (i := 2) (j := 6) (Ni := some 33) (Nj := some 3) #[true, true, true, false, false, false, false, false, false] #[true, true, false, false, false, false, true, false, false] rfl rfl rfl rfl (by kernel_rfl) (by decide) (by decide) (fun K hK => ?_) (fun K hK => ?_)
      · skip
        refine goes_ Try.func14 (by kernel_rfl) rfl #[.agg #[.slice A1 c1.tables.length d1, .slice A2 c1.procs.length d2], .agg #[.string t0.name, .slice X1 t0.cols.length x1, .slice X2 t0.key.length x2, .int .i64 t0.part, .slice X3 t0.idx.length x3]] (by rfl) rfl rfl (by simp only [List.map_toArray, List.map_cons, List.map_nil]; rfl) ?_
        with_reducible refine (addTab_any c1 A1 d1 A2 d2 t0 X1 x1 X2 x2 X3 x3 _ (Kd.C_below hA1 hBl) (Kd.C_below hA2 hBl) szC1 hX1 hX2 hX3 szT0).mono ?_
        rintro e w2 hco
        rw [add1] at hco
        have hco3 := hco.open_
        dsimp only at hco3
        obtain ⟨Y1, y1, Y2, y2, rfl, _, _, hb2⟩ := hco3
        clear hco
        refine ⟨_, rfl, ?_⟩
        replace hBl := below_then hBl hBl.size hb2
        refine hK.out _ _ ⟨pw_cell_below hb2 hHeld.1, pw_cell_below hb2 hHeld.2⟩ (fun hHeld => ?_)
        clear hK K
        refine norm_ (a' := ?_) ?_ ?_
        rotate_left
        · show Act.put _ (some 33) _ = _
          simp only [Act.put, List.setIfInBounds_toArray, List.set_cons_zero, List.set_cons_succ, i64_w, i32_w]
          rfl
        refine pure_ (i := 3) (N := some 30) (v := ?_) (a' := ?_) #[true, true, true, true, false, false, false, false, false] rfl rfl (by kernel_rfl) (fun _ _ _ h => h) (Or.inl ⟨by rfl, ?_⟩) ?_ ?_
        rotate_left
        · intro w'
          go_simp
          with_reducible rfl
        rotate_left
        · simp only [Act.put, List.setIfInBounds_toArray, List.set_cons_zero, List.set_cons_succ, i64_w, i32_w]
          rfl
        refine pure_ (i := 4) (N := some 34) (v := ?_) (a' := ?_) #[true, true, true, true, true, false, false, false, false] rfl rfl (by kernel_rfl) (fun _ _ _ h => h) (Or.inl ⟨by rfl, ?_⟩) ?_ ?_
        rotate_left
        · intro w'
          go_simp
          with_reducible rfl
        rotate_left
        · simp only [Act.put, List.setIfInBounds_toArray, List.set_cons_zero, List.set_cons_succ, i64_w, i32_w]
          rfl
        refine pure_ (i := 5) (N := some 35) (v := ?_) (a' := ?_) #[true, true, true, true, true, true, false, false, false] rfl rfl (by kernel_rfl) (fun _ _ _ h => h) (Or.inl ⟨by rfl, ?_⟩) ?_ ?_
        rotate_left
        · intro w'
          go_simp
          with_reducible rfl
        rotate_left
        · simp only [Act.put, List.setIfInBounds_toArray, List.set_cons_zero, List.set_cons_succ, i64_w, i32_w]
          rfl
        refine one_ (i := 6) (N := some 3) #[true, true, true, true, true, true, true, false, false] rfl rfl (by kernel_rfl) (by decide) (fun K hK => ?_)
        refine value_ (w1 := ?_) (v := ?_) (by rfl) rfl ?_ ?_
        rotate_left 2
        · go_simp
          constructor
          · rfl
          · rfl
        have hG := blk_alloc w2 (Obj.cells #[.slice none 0 0, .slice none 0 0] 25)
        have hgl : wc.heap.size ≤ w2.heap.size := hBl.size
        replace hX1 := Kd.C_alloc hX1 (Obj.cells #[.slice none 0 0, .slice none 0 0] 25)
        replace hX2 := Kd.C_alloc hX2 (Obj.cells #[.slice none 0 0, .slice none 0 0] 25)
        replace hX3 := Kd.C_alloc hX3 (Obj.cells #[.slice none 0 0, .slice none 0 0] 25)
        replace hBl := below_then hBl hBl.size (below_alloc (Below.refl _ _) (Obj.cells #[.slice none 0 0, .slice none 0 0] 25))
        refine hK.out _ _ ⟨pw_cell_below (below_alloc (Below.refl _ _) _) hHeld.1, pw_cell_below (below_alloc (Below.refl _ _) _) hHeld.2⟩ (fun hHeld => ?_)
        clear hK K
        refine norm_ (a' := ?_) ?_ ?_
        rotate_left
        · show Act.put _ (some 3) _ = _
          simp only [Act.put, List.setIfInBounds_toArray, List.set_cons_zero, List.set_cons_succ, i64_w, i32_w]
          rfl
        exact norm_ (by first | (simp only [putAll, Act.put, List.setIfInBounds_toArray, List.set_cons_zero, List.set_cons_succ]; done) | (simp only [putAll, Act.put, List.setIfInBounds_toArray, List.set_cons_zero, List.set_cons_succ]; rfl)) (hCont ⟨.agg #[.string t0.name, .slice X1 t0.cols.length x1, .slice X2 t0.key.length x2, .int .i64 t0.part, .slice X3 t0.idx.length x3], Y1, y1, Y2, y2, w2.heap.size⟩ _ ⟨hBl, hG, hgl⟩)
      · skip
        refine value_ (w1 := ?_) (v := ?_) (by rfl) rfl ?_ ?_
        rotate_left 2
        · go_simp
          constructor
          · rfl
          · rfl
        have hG := blk_alloc w1 (Obj.cells #[.slice none 0 0, .slice none 0 0] 25)
        have hgl : wc.heap.size ≤ w1.heap.size := hBl.size
        replace hX1 := Kd.C_alloc hX1 (Obj.cells #[.slice none 0 0, .slice none 0 0] 25)
        replace hX2 := Kd.C_alloc hX2 (Obj.cells #[.slice none 0 0, .slice none 0 0] 25)
        replace hX3 := Kd.C_alloc hX3 (Obj.cells #[.slice none 0 0, .slice none 0 0] 25)
        replace hBl := below_then hBl hBl.size (below_alloc (Below.refl _ _) (Obj.cells #[.slice none 0 0, .slice none 0 0] 25))
        refine hK.out _ _ ⟨pw_cell_below (below_alloc (Below.refl _ _) _) hHeld.1, pw_cell_below (below_alloc (Below.refl _ _) _) hHeld.2⟩ (fun hHeld => ?_)
        clear hK K
        refine norm_ (a' := ?_) ?_ ?_
        rotate_left
        · show Act.put _ (some 3) _ = _
          simp only [Act.put, List.setIfInBounds_toArray, List.set_cons_zero, List.set_cons_succ, i64_w, i32_w]
          rfl
        refine one_ (i := 2) (N := some 33) #[true, true, true, false, false, false, true, false, false] rfl rfl (by kernel_rfl) (by decide) (fun K hK => ?_)
        refine goes_ Try.func14 (by kernel_rfl) rfl #[.agg #[.slice A1 c1.tables.length d1, .slice A2 c1.procs.length d2], .agg #[.string t0.name, .slice X1 t0.cols.length x1, .slice X2 t0.key.length x2, .int .i64 t0.part, .slice X3 t0.idx.length x3]] (by rfl) rfl rfl (by simp only [List.map_toArray, List.map_cons, List.map_nil]; rfl) ?_
        with_reducible refine (addTab_any c1 A1 d1 A2 d2 t0 X1 x1 X2 x2 X3 x3 _ (Kd.C_below hA1 hBl) (Kd.C_below hA2 hBl) szC1 hX1 hX2 hX3 szT0).mono ?_
        rintro e w2 hco
        rw [add1] at hco
        have hco3 := hco.open_
        dsimp only at hco3
        obtain ⟨Y1, y1, Y2, y2, rfl, _, _, hb2⟩ := hco3
        clear hco
        refine ⟨_, rfl, ?_⟩
        replace hBl := below_then hBl hBl.size hb2
        replace hG := blk_below hG hb2
        refine hK.out _ _ ⟨pw_cell_below hb2 hHeld.1, pw_cell_below hb2 hHeld.2⟩ (fun hHeld => ?_)
        clear hK K
        refine norm_ (a' := ?_) ?_ ?_
        rotate_left
        · show Act.put _ (some 33) _ = _
          simp only [Act.put, List.setIfInBounds_toArray, List.set_cons_zero, List.set_cons_succ, i64_w, i32_w]
          rfl
        refine pure_ (i := 3) (N := some 30) (v := ?_) (a' := ?_) #[true, true, true, true, false, false, true, false, false] rfl rfl (by kernel_rfl) (fun _ _ _ h => h) (Or.inl ⟨by rfl, ?_⟩) ?_ ?_
        rotate_left
        · intro w'
          go_simp
          with_reducible rfl
        rotate_left
        · simp only [Act.put, List.setIfInBounds_toArray, List.set_cons_zero, List.set_cons_succ, i64_w, i32_w]
          rfl
        refine pure_ (i := 4) (N := some 34) (v := ?_) (a' := ?_) #[true, true, true, true, true, false, true, false, false] rfl rfl (by kernel_rfl) (fun _ _ _ h => h) (Or.inl ⟨by rfl, ?_⟩) ?_ ?_
        rotate_left
        · intro w'
          go_simp
          with_reducible rfl
        rotate_left
        · simp only [Act.put, List.setIfInBounds_toArray, List.set_cons_zero, List.set_cons_succ, i64_w, i32_w]
          rfl
        refine pure_ (i := 5) (N := some 35) (v := ?_) (a' := ?_) #[true, true, true, true, true, true, true, false, false] rfl rfl (by kernel_rfl) (fun _ _ _ h => h) (Or.inl ⟨by rfl, ?_⟩) ?_ ?_
        rotate_left
        · intro w'
          go_simp
          with_reducible rfl
        rotate_left
        · simp only [Act.put, List.setIfInBounds_toArray, List.set_cons_zero, List.set_cons_succ, i64_w, i32_w]
          rfl
        exact norm_ (by first | (simp only [putAll, Act.put, List.setIfInBounds_toArray, List.set_cons_zero, List.set_cons_succ]; done) | (simp only [putAll, Act.put, List.setIfInBounds_toArray, List.set_cons_zero, List.set_cons_succ]; rfl)) (hCont ⟨.agg #[.string t0.name, .slice X1 t0.cols.length x1, .slice X2 t0.key.length x2, .int .i64 t0.part, .slice X3 t0.idx.length x3], Y1, y1, Y2, y2, w1.heap.size⟩ _ ⟨hBl, hG, hgl⟩)
    · skip
      refine value_ (w1 := ?_) (v := ?_) (by rfl) rfl ?_ ?_
      rotate_left 2
      · go_simp
        constructor
        · rfl
        · rfl
      have hG := blk_alloc wc.drew (Obj.cells #[.slice none 0 0, .slice none 0 0] 25)
      have hgl : wc.heap.size ≤ wc.drew.heap.size := hBl.size
      replace hBl := below_then hBl hBl.size (below_alloc (Below.refl _ _) (Obj.cells #[.slice none 0 0, .slice none 0 0] 25))
      refine hK.out _ _ ⟨pw_cell_below (below_alloc (Below.refl _ _) _) hHeld.1, pw_cell_below (below_alloc (Below.refl _ _) _) hHeld.2⟩ (fun hHeld => ?_)
      clear hK K
      refine norm_ (a' := ?_) ?_ ?_
      rotate_left
      · show Act.put _ (some 3) _ = _
        simp only [Act.put, List.setIfInBounds_toArray, List.set_cons_zero, List.set_cons_succ, i64_w, i32_w]
        rfl
      refine one_ (i := 1) (N := some 32) #[true, true, false, false, false, false, true, false, false] rfl rfl (by kernel_rfl) (by decide) (fun K hK => ?_)
      refine goes_ Try.func34 (by kernel_rfl) rfl #[] (by rfl) rfl rfl (by simp only [List.map_toArray, List.map_nil]) ?_
      with_reducible refine (table_any _).mono ?_
      rintro e w1 ⟨va, rfl, hva, hb1⟩
      refine ⟨_, rfl, ?_⟩
      obtain ⟨X1, x1, X2, x2, X3, x3, rfl, hX1, hX2, hX3, _, _, _⟩ := vTab_open hva
      replace hBl := below_then hBl hBl.size hb1
      replace hG := blk_below hG hb1
      refine hK.out _ _ ⟨pw_cell_below hb1 hHeld.1, pw_cell_below hb1 hHeld.2⟩ (fun hHeld => ?_)
      clear hK K
      refine norm_ (a' := ?_) ?_ ?_
      rotate_left
      · show Act.put _ (some 32) _ = _
        simp only [Act.put, List.setIfInBounds_toArray, List.set_cons_zero, List.set_cons_succ, i64_w, i32_w]
        rfl
      refine one_ (i := 2) (N := some 33) #[true, true, true, false, false, false, true, false, false] rfl rfl (by kernel_rfl) (by decide) (fun K hK => ?_)
      refine goes_ Try.func14 (by kernel_rfl) rfl #[.agg #[.slice A1 c1.tables.length d1, .slice A2 c1.procs.length d2], .agg #[.string t0.name, .slice X1 t0.cols.length x1, .slice X2 t0.key.length x2, .int .i64 t0.part, .slice X3 t0.idx.length x3]] (by rfl) rfl rfl (by simp only [List.map_toArray, List.map_cons, List.map_nil]; rfl) ?_
      with_reducible refine (addTab_any c1 A1 d1 A2 d2 t0 X1 x1 X2 x2 X3 x3 _ (Kd.C_below hA1 hBl) (Kd.C_below hA2 hBl) szC1 hX1 hX2 hX3 szT0).mono ?_
      rintro e w2 hco
      rw [add1] at hco
      have hco3 := hco.open_
      dsimp only at hco3
      obtain ⟨Y1, y1, Y2, y2, rfl, _, _, hb2⟩ := hco3
      clear hco
      refine ⟨_, rfl, ?_⟩
      replace hBl := below_then hBl hBl.size hb2
      replace hG := blk_below hG hb2
      refine hK.out _ _ ⟨pw_cell_below hb2 hHeld.1, pw_cell_below hb2 hHeld.2⟩ (fun hHeld => ?_)
      clear hK K
      refine norm_ (a' := ?_) ?_ ?_
      rotate_left
      · show Act.put _ (some 33) _ = _
        simp only [Act.put, List.setIfInBounds_toArray, List.set_cons_zero, List.set_cons_succ, i64_w, i32_w]
        rfl
      refine pure_ (i := 3) (N := some 30) (v := ?_) (a' := ?_) #[true, true, true, true, false, false, true, false, false] rfl rfl (by kernel_rfl) (fun _ _ _ h => h) (Or.inl ⟨by rfl, ?_⟩) ?_ ?_
      rotate_left
      · intro w'
        go_simp
        with_reducible rfl
      rotate_left
      · simp only [Act.put, List.setIfInBounds_toArray, List.set_cons_zero, List.set_cons_succ, i64_w, i32_w]
        rfl
      refine pure_ (i := 4) (N := some 34) (v := ?_) (a' := ?_) #[true, true, true, true, true, false, true, false, false] rfl rfl (by kernel_rfl) (fun _ _ _ h => h) (Or.inl ⟨by rfl, ?_⟩) ?_ ?_
      rotate_left
      · intro w'
        go_simp
        with_reducible rfl
      rotate_left
      · simp only [Act.put, List.setIfInBounds_toArray, List.set_cons_zero, List.set_cons_succ, i64_w, i32_w]
        rfl
      refine pure_ (i := 5) (N := some 35) (v := ?_) (a' := ?_) #[true, true, true, true, true, true, true, false, false] rfl rfl (by kernel_rfl) (fun _ _ _ h => h) (Or.inl ⟨by rfl, ?_⟩) ?_ ?_
      rotate_left
      · intro w'
        go_simp
        with_reducible rfl
      rotate_left
      · simp only [Act.put, List.setIfInBounds_toArray, List.set_cons_zero, List.set_cons_succ, i64_w, i32_w]
        rfl
      exact norm_ (by first | (simp only [putAll, Act.put, List.setIfInBounds_toArray, List.set_cons_zero, List.set_cons_succ]; done) | (simp only [putAll, Act.put, List.setIfInBounds_toArray, List.set_cons_zero, List.set_cons_succ]; rfl)) (hCont ⟨.agg #[.string t0.name, .slice X1 t0.cols.length x1, .slice X2 t0.key.length x2, .int .i64 t0.part, .slice X3 t0.idx.length x3], Y1, y1, Y2, y2, wc.drew.heap.size⟩ _ ⟨hBl, hG, hgl⟩)
  rintro ⟨va, Y1, y1, Y2, y2, g2⟩ w4 ⟨hB4, hG, hg2⟩
  dsimp only at hG hg2
  have hHeld : w4.cell? ⟨g1, 0, none⟩ = some (.slice A1 c1.tables.length d1) ∧ w4.cell? ⟨g1, 1, none⟩ = some (.slice A2 c1.procs.length d2) := ⟨pw_cell_below hB4 f0, pw_cell_below hB4 f1⟩
  refine norm_ (a' := ?_) ?_ ?_
  rotate_left
  · simp only [putAll, Act.put, List.setIfInBounds_toArray, List.set_cons_zero, List.set_cons_succ]
    rfl
  refine last_ (i := 7) (N := none) #[true, true, true, true, true, true, true, true, false] rfl rfl (by kernel_rfl) (by decide) (fun K hK => ?_)
  have q1 := blk_cell hG 0
  have q2 := blk_frozen hG 0
  have q3 := blk_cell hG 1
  have q4 := blk_frozen hG 1
  refine skip_ (w1 := ?_) (by rfl) rfl ?_ ?_
  rotate_left
  · go_simp
    rfl
  refine hK.out _ _ ?_
  clear hK K
  refine pure_ (i := 8) (N := some 4) (v := ?_) (a' := ?_) #[true, true, true, true, true, true, true, true, true] rfl rfl (by kernel_rfl) (fun _ _ _ h => h) (Or.inl ⟨by rfl, ?_⟩) ?_ ?_
  rotate_left
  · intro w'
    go_simp
    with_reducible rfl
  rotate_left
  · simp only [Act.put, List.setIfInBounds_toArray, List.set_cons_zero, List.set_cons_succ, i64_w, i32_w]
    rfl
  refine done_ (by kernel_rfl) ?_
  have hB5 : Below wc.heap.size wc ((w4.setCell ⟨g2, 0, none⟩ (.slice Y1 c0.tables.length y1)).setCell ⟨g2, 1, none⟩ (.slice Y2 c0.procs.length y2)) := (hB4.setCell (by exact hg2) _).setCell (by exact hg2) _
  obtain ⟨w5, hw5⟩ : ∃ u, u = (w4.setCell ⟨g2, 0, none⟩ (.slice Y1 c0.tables.length y1)).setCell ⟨g2, 1, none⟩ (.slice Y2 c0.procs.length y2) := ⟨_, rfl⟩
  rw [← hw5] at hB5 ⊢
  clear hw5 hHeld hG q1 q2 q3 q4
  have k0 : w5.cell? ⟨g1, 0, none⟩ = some (.slice A1 c1.tables.length d1) := pw_cell_below hB5 f0
  have k1 : w5.cell? ⟨g1, 1, none⟩ = some (.slice A2 c1.procs.length d2) := pw_cell_below hB5 f1
  go_wp2_with fail
  refine (encode_any c1 A1 d1 A2 d2 w5 (Kd.C_below hA1 hB5) (Kd.C_below hA2 hB5)).mono ?_
  intro e w6 hq
  rw [enc1] at hq
  dsimp only at hq
  obtain ⟨rfl, hb6⟩ := hq
  have hB6 := below_then hB5 hB5.size hb6
  clear k0 k1
  have k0 : w6.cell? ⟨g1, 0, none⟩ = some (.slice A1 c1.tables.length d1) := pw_cell_below hB6 f0
  have k1 : w6.cell? ⟨g1, 1, none⟩ = some (.slice A2 c1.procs.length d2) := pw_cell_below hB6 f1
  go_wp2_with fail
  refine (right_any c1 A1 d1 A2 d2 w6 (Kd.C_below hA1 hB6) (Kd.C_below hA2 hB6)).mono ?_
  intro e w7 hq
  rw [decide_eq_true right1] at hq
  obtain ⟨rfl, hb7⟩ := hq
  have hB7 := below_then hB6 hB6.size hb7
  clear k0 k1
  have k0 : w7.cell? ⟨g1, 0, none⟩ = some (.slice A1 c1.tables.length d1) := pw_cell_below hB7 f0
  obtain ⟨ad, x, U1, u1, U2, u2, U3, u3, had, hx, _, _, q0, q1, q2, q3, q4, hc1, hc2, hc3⟩ := tab_at hA1 hB7 0 (by decide)
  obtain rfl : x = t0 := hx.symm
  have p0 : (0 : Int) < (c1.tables.length : Int) := by decide
  have had0 : ad.add (0 * 5) = ad := by simp [Addr.add]
  rw [had0] at q0 q1 q2 q3 q4
  rw [had] at k0
  go_wp2_with fail
  refine (findColumn_any t0.name U1 t0.cols.length u1 U2 t0.key.length u2 t0.part U3 t0.idx.length u3 t0.cols ⟨#[118]⟩ w7 (Kd.C_below hc1.2 hB7)).mono ?_
  intro e w8 hq
  rw [pos1] at hq
  dsimp only at hq
  obtain ⟨rfl, hb8⟩ := hq
  have hB8 := below_then hB7 hB7.size hb8
  clear k0 q0 q1 q2 q3 q4 hc1 hc2 hc3 p0 had0 had
  have k0 : w8.cell? ⟨g1, 0, none⟩ = some (.slice A1 c1.tables.length d1) := pw_cell_below hB8 f0
  have k1 : w8.cell? ⟨g1, 1, none⟩ = some (.slice A2 c1.procs.length d2) := pw_cell_below hB8 f1
  go_wp2_with fail
  refine (findTable_any A1 c1.tables.length d1 A2 c1.procs.length d2 c1.tables ⟨#[117]⟩ w8 (Kd.C_below hA1 hB8)).mono ?_
  intro e w9 hq
  rw [pos2] at hq
  dsimp only at hq
  obtain ⟨rfl, hb9⟩ := hq
  have hB9 := below_then hB8 hB8.size hb9
  have HB := Aside0.mk (below_then hB hB.size hB9)
  clear k0 k1 hB9 hb9 hB8 hb8 hB7 hb7 hB6 hb6 hB5 hB hB0 hBl hA1 hA2 f0 f1 bx SC hgw hbc hB4 hg2
  go_wp2_with fail
  refine (decode_any ⟨#[1]⟩ w9 (by decide)).mono ?_
  rintro e w10 ⟨r, hr, hco⟩
  obtain rfl := dec1 hr
  have hco2 := hco.open_
  dsimp only at hco2
  obtain ⟨D1, e1, D2, e2, rfl, _, _, hb10⟩ := hco2
  have HB10 := Aside0.mk (below_then HB.out HB.out.size hb10)
  clear hco hr hb10
  go_wp2_with fail
  obtain ⟨w11, hw11, _, _, hb11⟩ := grow (W := w10) rfl #[.slice D1 c0.tables.length e1, .slice D2 c0.procs.length e2] 25
  rw [← hw11]
  have HB11 := Aside0.mk (below_then HB10.out HB10.out.size hb11)
  clear hw11 hb11
  refine (table_any w11).mono ?_
  rintro e w12 ⟨v, rfl, hv, hb12⟩
  obtain ⟨T1, t1', T2, t2', T3, t3', rfl, hT1, hT2, hT3, lT1, lT2, lT3⟩ := vTab_open hv
  have HB12 := Aside0.mk (below_then HB11.out HB11.out.size hb12)
  have HT1 := Aside0.mk hT1
  have HT2 := Aside0.mk hT2
  have HT3 := Aside0.mk hT3
  clear hv hb12 hT1 hT2 hT3
  go_wp2_with fail
  obtain ⟨w13, hw13, _, s13, hb13⟩ := grow (W := w12) rfl #[.string t0.name, .slice T1 t0.cols.length t1', .slice T2 t0.key.length t2', .int .i64 1, .slice T3 t0.idx.length t3'] 30
  obtain ⟨w14, hw14, bx, _, hb14⟩ := grow s13 #[.string t0.name, .slice T1 t0.cols.length t1', .slice T2 t0.key.length t2', .int .i64 1, .slice T3 t0.idx.length t3'] 30
  rw [← hw13, ← hw14]
  have hb := below_then hb13 hb13.size hb14
  have HB14 := Aside0.mk (below_then HB12.out HB12.out.size hb)
  have hC : kTab.C w14 (some ⟨w12.heap.size + 1, 0, none⟩) ([t1] : List Tab).length [t1] := C_block bx (by decide) (reps1 rfl (kTab_one (t := t1) (Kd.C_below HT1.out hb) lT1 (Kd.C_below HT2.out hb) lT2 (Kd.C_below HT3.out hb) lT3))
  clear hw13 hw14 hb13 hb14 hb bx s13 HT1 HT2 HT3 HB12 HB11 HB10 HB
  refine (right_any ⟨[t1], []⟩ (some ⟨w12.heap.size + 1, 0, none⟩) 1 none 0 w14 hC (Kd.C_nil _ _)).mono ?_
  intro e w15 hq
  rw [decide_eq_false not1] at hq
  obtain ⟨rfl, hb15⟩ := hq
  have HB15 := Aside0.mk (below_then HB14.out HB14.out.size hb15)
  clear hb15 hC HB14
  go_wp2_with fail
  go_ret
  exact ⟨rfl, HB15.out⟩
end Go.Proofs.Ytcmgdieeclninaa
