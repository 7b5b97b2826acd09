/- Layer 8: the walks of AddTable, AddProc. -/
import Derived.Test.YtcmgdieeclninaaD25
set_option linter.unusedVariables false
set_option linter.unusedSimpArgs false
namespace Go.Proofs.Ytcmgdieeclninaa
open Go.RowKit Go.Proofs.YtcmgdieeclninaaW.PrintWords Go.Proofs.YtcmgdieeclninaaW.PrintLast
theorem results_row_tmp {P : Program} {fn : Func} {p u : Tmp} {ty : TypeId} (h : fn.results = #[.cell p ty, .tmp u]) (tmps : Array Value) (w : World) (g : Nat) (t : TypeId) (cs : Array Value) (fr : Nat × Nat) (d : TypeDesc)
    (hp : tmps.getD p undef = .pointer (some ⟨g, 0, none⟩)) (hg : w.heap[g]? = some (.cells cs t fr))
    (hu : P.underlying ty = some d) (hd : (match d with | .struct _ | .array _ _ => true | _ => false) = true) (hi : (P.info? ty).map (·.size) = some cs.size) :
    (results fn tmps).run P w = .ok (.tuple #[.agg cs, tmps.getD u undef]) w := by
  rw [results_cell_tmp h, hp]
  simp [asAddr, run_loadVar_row w g t ty cs fr d hg hu hd hi, Result.andThen_ok]
/-- C2, tables. -/
def addTab (c : Cat) (t : Tab) : Int × Cat :=
  if RightCat c ∧ MayTab t then (if t.name ∈ c.tables.map (·.name) then (81, ⟨[], []⟩) else if 8 ≤ c.tables.length then (2, ⟨[], []⟩) else (0, ⟨c.tables ++ [t], c.procs⟩)) else (80, ⟨[], []⟩)
/-- C2, procedures. -/
def addPrc (c : Cat) (p : Prc) : Int × Cat :=
  if RightCat c ∧ MayPrc p then (if p.name ∈ c.procs.map (·.name) then (81, ⟨[], []⟩) else if 16 ≤ c.procs.length then (2, ⟨[], []⟩) else (0, ⟨c.tables, c.procs ++ [p]⟩)) else (80, ⟨[], []⟩)
/-- A catalog of the call's own, and a number. -/
def CatOut (r : Int × Cat) (w : World) (e : Ending) (w' : World) : Prop :=
  ∃ v1 v2, e = .returned (.tuple #[.agg #[v1, v2], .int .i64 r.1]) ∧ (kTab.R 30 w' w.heap.size (fun _ => True) v1 r.2.tables ∧ kPrc.R 34 w' w.heap.size (fun _ => True) v2 r.2.procs) ∧ Below w.heap.size w w'
theorem foundV_some {l : List ByteArray} {x : ByteArray} (h : x ∈ l) : ∃ r : Int, foundV (posF l x) = (.int .i64 r, .int .i64 0) ∧ 0 ≤ posF l x := by
  rcases posF_range l x with h1 | ⟨h1, _⟩
  · exfalso
    unfold posF at h1
    rw [if_pos h] at h1
    omega
  · exact ⟨posF l x, by unfold foundV; rw [if_neg (by omega)], h1⟩
theorem foundV_none {l : List ByteArray} {x : ByteArray} (h : ¬ x ∈ l) : foundV (posF l x) = (.int .i64 0, .int .i64 82) := by
  rw [posF_none h]; rfl
/-- The end of a refusal. -/
theorem refuse_end {w u : World} {o1 o2 : Obj} {r : Int × Cat} {n : Int} (hS : St3 w u o1 o2 zCat) (hr : r = (n, ⟨[], []⟩)) :
    CatOut r w (.returned (.tuple #[.agg #[.slice none 0 0, .slice none 0 0], .int .i64 n])) ((u.setCell ⟨w.heap.size + 1 + 1, 0, none⟩ (.slice none 0 0)).setCell ⟨w.heap.size + 1 + 1, 1, none⟩ (.slice none 0 0)) := by
  subst hr
  exact ⟨_, _, rfl, ⟨Kd.R_nil _ _ _ _ _, Kd.R_nil _ _ _ _ _⟩, ((hS.set3 0 (.slice none 0 0) rfl).set3 1 (.slice none 0 0) rfl).bel⟩
set_option maxRecDepth 100000 in
set_option maxHeartbeats 8000000 in
theorem addTab_any (c : Cat) (A1 : Option Addr) (c1 : Nat) (A2 : Option Addr) (c2 : Nat) (t : Tab) (A3 : Option Addr) (d3 : Nat) (A4 : Option Addr) (d4 : Nat) (A5 : Option Addr) (d5 : Nat) (w : World)
    (hC1 : kTab.C w A1 c.tables.length c.tables) (hC2 : kPrc.C w A2 c.procs.length c.procs) (hz : SzCat c) (hX1 : kCol.C w A3 t.cols.length t.cols) (hX2 : (Kd.int .i64).C w A4 t.key.length t.key) (hX3 : kIdx.C w A5 t.idx.length t.idx) (hzt : SzTab t) :
    Calls Try.prog 14 #[.agg #[.slice A1 c.tables.length c1, .slice A2 c.procs.length c2], .agg #[.string t.name, .slice A3 t.cols.length d3, .slice A4 t.key.length d4, .int .i64 t.part, .slice A5 t.idx.length d5]] w (CatOut (addTab c t) w) := by
  have HC1 := Aside0.mk hC1
  have HC2 := Aside0.mk hC2
  have HZ := Lib.hid hz
  have HZT := Lib.hid hzt
  have hz1 := hz.1
  have hz2 := hz.2.1
  have HX1 := Aside0.mk hX1
  have HX2 := Aside0.mk hX2
  have HX3 := Aside0.mk hX3
  clear hC1 hC2 hz hzt hX1 hX2 hX3
  have hst := St3.start w (catBox c.tables.length c.procs.length A1 c1 A2 c2) (tabBox t A3 d3 A4 d4 A5 d5) zCat
  have hw0 : ((w.alloc (Obj.cells #[.slice A1 c.tables.length c1, .slice A2 c.procs.length c2] 25)).alloc (Obj.cells #[.string t.name, .slice A3 t.cols.length d3, .slice A4 t.key.length d4, .int .i64 t.part, .slice A5 t.idx.length d5] 30)).alloc (Obj.cells #[.slice none 0 0, .slice none 0 0] 25) = ((w.alloc (catBox c.tables.length c.procs.length A1 c1 A2 c2)).alloc (tabBox t A3 d3 A4 d4 A5 d5)).alloc zCat := rfl
  obtain ⟨W, hW⟩ : ∃ W, W = ((w.alloc (catBox c.tables.length c.procs.length A1 c1 A2 c2)).alloc (tabBox t A3 d3 A4 d4 A5 d5)).alloc zCat := ⟨_, rfl⟩
  rw [← hW] at hst hw0
  have HW0 := Aside0.mk hw0
  have S0 := Aside0.mk hst
  clear hW hw0 hst
  go_enter Try.func14, Try.ntmps14
  have f0 : W.cell? ⟨w.heap.size, 0, none⟩ = some (.slice A1 c.tables.length c1) := blk_cell S0.out.b1 0
  have f1 : W.cell? ⟨w.heap.size, 1, none⟩ = some (.slice A2 c.procs.length c2) := blk_cell S0.out.b1 1
  go_wp2_with fail
  rw [HW0.out]
  refine (right_any c A1 c1 A2 c2 W (Kd.C_below HC1.out S0.out.bel) (Kd.C_below HC2.out S0.out.bel)).mono ?_
  rintro e u1 ⟨rfl, hb1⟩
  have S1 := Aside0.mk (S0.out.below hb1)
  clear hb1 f0 f1
  have g0 : u1.cell? ⟨w.heap.size + 1, 0, none⟩ = some (.string t.name) := blk_cell S1.out.b2 0
  have g1 : u1.cell? ⟨w.heap.size + 1, 1, none⟩ = some (.slice A3 t.cols.length d3) := blk_cell S1.out.b2 1
  have g2 : u1.cell? ⟨w.heap.size + 1, 2, none⟩ = some (.slice A4 t.key.length d4) := blk_cell S1.out.b2 2
  have g3 : u1.cell? ⟨w.heap.size + 1, 3, none⟩ = some (.int .i64 t.part) := blk_cell S1.out.b2 3
  have g4 : u1.cell? ⟨w.heap.size + 1, 4, none⟩ = some (.slice A5 t.idx.length d5) := blk_cell S1.out.b2 4
  by_cases hR : RightCat c
  · rw [decide_eq_true hR]
    have HR := Lib.hid hR
    clear hR
    go_wp2_with fail
    refine (mayTab_any t A3 d3 A4 d4 A5 d5 u1 (Kd.C_below HX1.out S1.out.bel) (Kd.C_below HX2.out S1.out.bel) (Kd.C_below HX3.out S1.out.bel)).mono ?_
    rintro e u2 ⟨rfl, hb2⟩
    have S2 := Aside0.mk (S1.out.below hb2)
    clear hb2 g0 g1 g2 g3 g4
    by_cases hM : MayTab t
    · rw [decide_eq_true hM]
      have HM := Lib.hid hM
      clear hM
      have f0 : u2.cell? ⟨w.heap.size, 0, none⟩ = some (.slice A1 c.tables.length c1) := blk_cell S2.out.b1 0
      have f1 : u2.cell? ⟨w.heap.size, 1, none⟩ = some (.slice A2 c.procs.length c2) := blk_cell S2.out.b1 1
      have g0 : u2.cell? ⟨w.heap.size + 1, 0, none⟩ = some (.string t.name) := blk_cell S2.out.b2 0
      go_wp2_with fail
      refine (findTable_any A1 c.tables.length c1 A2 c.procs.length c2 c.tables t.name u2 (Kd.C_below HC1.out S2.out.bel)).mono ?_
      rintro e u3 ⟨rfl, hb3⟩
      have S3 := Aside0.mk (S2.out.below hb3)
      clear hb3 f0 f1 g0
      by_cases hin : t.name ∈ c.tables.map (·.name)
      · obtain ⟨r, hr, _⟩ := foundV_some hin
        have HIN := Lib.hid hin
        rw [hr]
        clear hr hin
        have k0 : u3.frozen? ⟨w.heap.size + 1 + 1, 0, none⟩ = false := blk_frozen S3.out.b3 _
        have k1 : u3.frozen? ⟨w.heap.size + 1 + 1, 1, none⟩ = false := blk_frozen S3.out.b3 _
        have k2 : u3.cell? ⟨w.heap.size + 1 + 1, 0, none⟩ = some (.slice none 0 0) := blk_cell S3.out.b3 0
        have k3 : u3.cell? ⟨w.heap.size + 1 + 1, 1, none⟩ = some (.slice none 0 0) := blk_cell S3.out.b3 1
        go_wp2_with fail
        refine bodyPost_ret (results_row_tmp rfl _ _ (w.heap.size + 1 + 1) 25 #[.slice none 0 0, .slice none 0 0] (0, 0) _ rfl ((S3.out.set3 0 (.slice none 0 0) rfl).set3 1 (.slice none 0 0) rfl).b3 Try.underlying25 rfl (by kernel_rfl)) rfl ?_
        exact refuse_end S3.out (by unfold addTab; rw [if_pos ⟨HR.out, HM.out⟩, if_pos HIN.out])
      · rw [foundV_none hin]
        have HIN := Lib.hid hin
        clear hin
        have f0 : u3.cell? ⟨w.heap.size, 0, none⟩ = some (.slice A1 c.tables.length c1) := blk_cell S3.out.b1 0
        by_cases hl : c.tables.length = 8
        · have he : ((c.tables.length : Int) == 8) = true := by rw [beq_iff_eq]; omega
          have HL := Lib.hid hl
          clear hl
          have k0 : u3.frozen? ⟨w.heap.size + 1 + 1, 0, none⟩ = false := blk_frozen S3.out.b3 _
          have k1 : u3.frozen? ⟨w.heap.size + 1 + 1, 1, none⟩ = false := blk_frozen S3.out.b3 _
          have k2 : u3.cell? ⟨w.heap.size + 1 + 1, 0, none⟩ = some (.slice none 0 0) := blk_cell S3.out.b3 0
          have k3 : u3.cell? ⟨w.heap.size + 1 + 1, 1, none⟩ = some (.slice none 0 0) := blk_cell S3.out.b3 1
          go_wp2_with fail
          refine bodyPost_ret (results_row_tmp rfl _ _ (w.heap.size + 1 + 1) 25 #[.slice none 0 0, .slice none 0 0] (0, 0) _ rfl ((S3.out.set3 0 (.slice none 0 0) rfl).set3 1 (.slice none 0 0) rfl).b3 Try.underlying25 rfl (by kernel_rfl)) rfl ?_
          exact refuse_end S3.out (by unfold addTab; rw [if_pos ⟨HR.out, HM.out⟩, if_neg HIN.out, if_pos (by have := HL.out; omega)])
        · have he : ((c.tables.length : Int) == 8) = false := by rw [beq_eq_false_iff_ne]; omega
          have f00 : u3.cell? ⟨w.heap.size, 0, none⟩ = some (.slice A1 c.tables.length c1) := blk_cell S3.out.b1 0
          have f01 : u3.cell? ⟨w.heap.size, 1, none⟩ = some (.slice A2 c.procs.length c2) := blk_cell S3.out.b1 1
          go_wp2_with fail
          refine (of_any c A1 c1 A2 c2 u3 (Kd.C_below HC1.out S3.out.bel) (Kd.C_below HC2.out S3.out.bel) HZ.out).mono ?_
          rintro e u4 ⟨v1, v2, rfl, ⟨hr1, hr2⟩, hb4⟩
          obtain ⟨V1, k1, hv1⟩ := Kd.R_slice hr1
          obtain ⟨V2, k2, hv2⟩ := Kd.R_slice hr2
          subst hv1 hv2
          have S4 := Aside0.mk (S3.out.below hb4)
          have R1 := Aside0.mk (Kd.R_bound hr1)
          have R2 := Aside0.mk (Kd.R_bound hr2)
          have hz3 := Lib.hid hb4.size
          clear hr1 hr2 hb4 f0 f00 f01
          go_wp2_with fail
          obtain ⟨bx, hbx⟩ : ∃ bx, bx = u4.heap.size := ⟨_, rfl⟩
          obtain ⟨wa, hwa⟩ : ∃ wa, wa = u4.alloc (Obj.cells #[.slice V1 c.tables.length k1, .slice V2 c.procs.length k2] 25) := ⟨_, rfl⟩
          have hA0 : Below u4.heap.size u4 wa := by rw [hwa]; exact below_alloc (Below.refl _ _) _
          have hA1 : wa.heap[bx]? = some (Obj.cells #[.slice V1 c.tables.length k1, .slice V2 c.procs.length k2] 25) := by rw [hwa, hbx]; exact blk_alloc _ _
          have hbs : wa.heap.size = bx + 1 := by rw [hwa, hbx]; simp
          rw [← hwa, ← hbx]
          have SA := Aside0.mk ((S4.out.below hA0).below (below_drew (Below.refl _ _)))
          have HA0 := Aside0.mk hA0
          have HA1 := Aside0.mk hA1
          have HBX := Lib.hid hbx
          have HBS := Lib.hid hbs
          have R1a := Aside0.mk (Kd.R_below R1.out (show Below u4.heap.size u4 wa.drew from below_drew hA0))
          have R2a := Aside0.mk (Kd.R_below R2.out (show Below u4.heap.size u4 wa.drew from below_drew hA0))
          clear hwa hbx hA0 hA1 hbs
          have q0 : wa.drew.cell? ⟨bx, 0, none⟩ = some (.slice V1 c.tables.length k1) := blk_cell HA1.out 0
          have g0 : wa.drew.cell? ⟨w.heap.size + 1, 0, none⟩ = some (.string t.name) := blk_cell SA.out.b2 0
          have g1 : wa.drew.cell? ⟨w.heap.size + 1, 1, none⟩ = some (.slice A3 t.cols.length d3) := blk_cell SA.out.b2 1
          have g2 : wa.drew.cell? ⟨w.heap.size + 1, 2, none⟩ = some (.slice A4 t.key.length d4) := blk_cell SA.out.b2 2
          have g3 : wa.drew.cell? ⟨w.heap.size + 1, 3, none⟩ = some (.int .i64 t.part) := blk_cell SA.out.b2 3
          have g4 : wa.drew.cell? ⟨w.heap.size + 1, 4, none⟩ = some (.slice A5 t.idx.length d5) := blk_cell SA.out.b2 4
          refine start_ (n := 8) (S := fun w' => w'.cell? ⟨bx, 0, none⟩ = some (.slice V1 c.tables.length k1) ∧ w'.cell? ⟨w.heap.size + 1, 0, none⟩ = some (.string t.name) ∧ w'.cell? ⟨w.heap.size + 1, 1, none⟩ = some (.slice A3 t.cols.length d3) ∧ w'.cell? ⟨w.heap.size + 1, 2, none⟩ = some (.slice A4 t.key.length d4) ∧ w'.cell? ⟨w.heap.size + 1, 3, none⟩ = some (.int .i64 t.part) ∧ w'.cell? ⟨w.heap.size + 1, 4, none⟩ = some (.slice A5 t.idx.length d5)) (ds := [7]) #[false, false, false, false, false, false, false, false] (by kernel_rfl) rfl rfl ⟨q0, g0, g1, g2, g3, g4⟩ (fun hHeld => ?_)
          refine pure_ (i := 0) (N := some 35) (v := ?_) (a' := ?_) #[true, false, false, false, false, false, false, false] rfl rfl (by kernel_rfl) (fun _ _ _ h => h) (Or.inl ⟨by rfl, ?_⟩) ?_ ?_
          rotate_left
          · intro w'
            go_simp
            with_reducible rfl
          rotate_left
          · simp only [Act.put, List.setIfInBounds_toArray, List.set_cons_zero, List.set_cons_succ, i64_w, i32_w]
            rfl
          refine take_ (i := 1) (N := some 36) (v := ?_) (a' := ?_) #[true, true, false, false, false, false, false, false] rfl rfl (by kernel_rfl) (fun _ _ _ h => h) (Or.inl ⟨by rfl, ?_⟩) hHeld ?_ ?_
          rotate_left
          · rintro w' ⟨s0, s1, s2, s3, s4, s5⟩
            go_simp
            with_reducible rfl
          rotate_left
          · simp only [Act.put, List.setIfInBounds_toArray, List.set_cons_zero, List.set_cons_succ, i64_w, i32_w]
            rfl
          refine take_ (i := 2) (N := some 37) (v := ?_) (a' := ?_) #[true, true, true, false, false, false, false, false] rfl rfl (by kernel_rfl) (fun _ _ _ h => h) (Or.inl ⟨by rfl, ?_⟩) hHeld ?_ ?_
          rotate_left
          · rintro w' ⟨s0, s1, s2, s3, s4, s5⟩
            go_simp
            with_reducible rfl
          rotate_left
          · simp only [Act.put, List.setIfInBounds_toArray, List.set_cons_zero, List.set_cons_succ, i64_w, i32_w]
            rfl
          refine one_ (i := 3) (N := some 38) #[true, true, true, true, false, false, false, false] rfl rfl (by kernel_rfl) (by decide) (fun K hK => ?_)
          refine goes_ Try.func38 (by kernel_rfl) rfl #[.agg #[.string t.name, .slice A3 t.cols.length d3, .slice A4 t.key.length d4, .int .i64 t.part, .slice A5 t.idx.length d5]] (by rfl) rfl rfl (by simp only [List.map_toArray, List.map_cons, List.map_nil]; rfl) ?_
          with_reducible refine (tabOf_any t A3 d3 A4 d4 A5 d5 wa.drew (Kd.C_below HX1.out SA.out.bel) (Kd.C_below HX2.out SA.out.bel) (Kd.C_below HX3.out SA.out.bel) HZT.out).mono ?_
          rintro e w5 ⟨v3, v4, v5, rfl, ⟨hr1, hr2, hr3⟩, hb5⟩
          refine ⟨_, rfl, ?_⟩
          obtain ⟨Y1, y1, hv1⟩ := Kd.R_slice hr1
          subst hv1
          obtain ⟨Y2, y2, hv2⟩ := Kd.R_slice hr2
          subst hv2
          obtain ⟨Y3, y3, hv3⟩ := Kd.R_slice hr3
          subst hv3
          have HMM : Aside0 (kTab.M w5 wa.drew.heap.size (fun _ => True) t [.string t.name, .slice Y1 t.cols.length y1, .slice Y2 t.key.length y2, .int .i64 t.part, .slice Y3 t.idx.length y3]) := ⟨kTab_M.2 ⟨_, _, _, rfl, hr1, hr2, hr3⟩⟩
          have S5 := Aside0.mk (SA.out.below hb5)
          have R1b := Aside0.mk (Kd.R_below R1a.out hb5)
          have R2b := Aside0.mk (Kd.R_below R2a.out hb5)
          have HS5 := Lib.hid hb5.size
          have HA5 := Aside0.mk (blk_below (w := wa.drew) HA1.out hb5)
          clear hr1 hr2 hr3 hb5
          refine hK.out _ _ ⟨blk_cell HA5.out 0, blk_cell S5.out.b2 0, blk_cell S5.out.b2 1, blk_cell S5.out.b2 2, blk_cell S5.out.b2 3, blk_cell S5.out.b2 4⟩ (fun hHeld => ?_)
          clear hK K
          refine norm_ (a' := ?_) ?_ ?_
          rotate_left
          · show Act.put _ (some 38) _ = _
            simp only [Act.put, List.setIfInBounds_toArray, List.set_cons_zero, List.set_cons_succ, i64_w, i32_w]
            rfl
          refine one_ (i := 4) (N := some 39) #[true, true, true, true, true, false, false, false] rfl rfl (by kernel_rfl) (by decide) (fun K hK => ?_)
          refine value_ (w1 := ?_) (v := ?_) (by rfl) rfl ?_ ?_
          rotate_left 2
          · go_simp
            constructor
            · rfl
            · rfl
          have S6 := Aside0.mk (S5.out.alloc (Obj.cells #[.string t.name, .slice Y1 t.cols.length y1, .slice Y2 t.key.length y2, .int .i64 t.part, .slice Y3 t.idx.length y3] 30))
          have HA6 := Aside0.mk (blk_alloc' (o' := (Obj.cells #[.string t.name, .slice Y1 t.cols.length y1, .slice Y2 t.key.length y2, .int .i64 t.part, .slice Y3 t.idx.length y3] 30)) HA5.out)
          refine hK.out _ _ ⟨blk_cell HA6.out 0, blk_cell S6.out.b2 0, blk_cell S6.out.b2 1, blk_cell S6.out.b2 2, blk_cell S6.out.b2 3, blk_cell S6.out.b2 4⟩ (fun hHeld => ?_)
          clear hK K
          refine norm_ (a' := ?_) ?_ ?_
          rotate_left
          · show Act.put _ (some 39) _ = _
            simp only [Act.put, List.setIfInBounds_toArray, List.set_cons_zero, List.set_cons_succ, i64_w, i32_w]
            rfl
          refine one_ (i := 5) (N := some 40) #[true, true, true, true, true, true, false, false] rfl rfl (by kernel_rfl) (by decide) (fun K hK => ?_)
          refine Kd.R_append_step kTab (w0 := w5) u3.heap.size (by rfl) (.tmp 36) (.tmp 39) 22 30 _ 96 rfl Try.underlying22 info30 rfl (by decide) (by omega) _ c.tables t [.string t.name, .slice Y1 t.cols.length y1, .slice Y2 t.key.length y2, .int .i64 t.part, .slice Y3 t.idx.length y3] (fun k => u3.heap.size ≤ k ∧ k ≠ bx) (fun k => wa.drew.heap.size ≤ k) (by rfl) (by rfl) ?aP ?aK ?aF ?aO ?aB ?aS ?aL ?_
          case aP => exact kTab.M_lower (Nat.le_trans hz3.out HA0.out.size) (kTab.M_mono (fun k hk => hk.2.1) (kTab.M_bound HMM.out))
          case aK => exact fun i hi => ⟨⟨Nat.le_trans (Nat.le_trans hz3.out HA0.out.size) hi, by have h2 := HBS.out; have h3 : wa.drew.heap.size = wa.heap.size := rfl; omega⟩, fun he => by have h1 := Kd.R_lt R1.out i he.symm; have h2 := HA0.out.size; have h3 : wa.drew.heap.size = wa.heap.size := rfl; omega⟩
          case aF => exact fun i hi => by have h5 := HBS.out; have h1 := HS5.out; have h2 := HA0.out.size; have h3 : wa.drew.heap.size = wa.heap.size := rfl; have h4 := hz3.out; omega
          case aO => exact Kd.R_mono R1b.out (fun i hi => ⟨hi.2.1, by have h1 := hi.2.2.1; have h2 := HBX.out; omega⟩)
          case aB => exact Below.refl _ _
          case aS => have h1 := HS5.out; have h2 := HA0.out.size; have h3 : wa.drew.heap.size = wa.heap.size := rfl; have h4 := hz3.out; omega
          case aL => omega
          intro v7 w7 ho7 hb7 hg7 hat7
          obtain ⟨V7, vc7, hv7⟩ := Kd.R_slice ho7
          rw [List.length_append, List.length_singleton] at hv7
          have hO7 := Aside0.mk ho7
          have hT7 := Aside0.mk (Kd.R_over (Kd.R_mono (ok' := fun k => u3.heap.size ≤ k ∧ k < u4.heap.size) R2b.out (fun i hi => ⟨hi.2.1, hi.2.2.1⟩)) R1b.out (by intro q hq; have hq2 : q = 34 ∨ q = 66 ∨ q = 9 := (by simpa [kPrc, kPrm, Kd.iso, Kd.pair, Kd.slice, Kd.string, Kd.int, Kd.bool, Kd.scalar] using hq); omega) hg7)
          have hm7 : Mod w5 w7 (fun i => u3.heap.size ≤ i ∧ some i = (Value.slice V1 c.tables.length k1).ownBlock) := ⟨hb7.os, hb7.tape, hb7.output, hg7.size, fun i hi hn => by rcases Nat.lt_or_ge i u3.heap.size with h | h; exact hb7.block i h; exact hg7.block i hi (fun he => hn ⟨h, he⟩)⟩
          have S7 := Aside0.mk (S5.out.mod hm7 (fun i hi => by have := S3.out.sz; have := hi.1; omega))
          have HA7 := Aside0.mk (blk_mod HA5.out hm7 (fun h => by have := Kd.R_lt R1.out bx h.2.symm; have := HBX.out; omega))
          subst hv7
          have hsz7 := Lib.hid hg7.size
          clear ho7 hb7 hg7 hat7 hm7
          refine hK.out _ _ ⟨blk_cell HA7.out 0, blk_cell S7.out.b2 0, blk_cell S7.out.b2 1, blk_cell S7.out.b2 2, blk_cell S7.out.b2 3, blk_cell S7.out.b2 4⟩ (fun hHeld => ?_)
          clear hK K
          refine norm_ (a' := ?_) ?_ ?_
          rotate_left
          · show Act.put _ (some 40) _ = _
            simp only [Act.put, List.setIfInBounds_toArray, List.set_cons_zero, List.set_cons_succ, i64_w, i32_w]
            rfl
          refine pure_ (i := 6) (N := some 41) (v := ?_) (a' := ?_) #[true, true, true, true, true, true, true, false] rfl rfl (by kernel_rfl) (fun _ _ _ h => h) (Or.inl ⟨by rfl, ?_⟩) ?_ ?_
          rotate_left
          · intro w'
            go_simp
            with_reducible rfl
          rotate_left
          · simp only [Act.put, List.setIfInBounds_toArray, List.set_cons_zero, List.set_cons_succ, i64_w, i32_w]
            rfl
          refine last_ (i := 7) (N := none) #[true, true, true, true, true, true, true, true] rfl rfl (by kernel_rfl) (by decide) (fun K hK => ?_)
          have z1 := blk_cell HA7.out 0
          have z2 := blk_frozen HA7.out 0
          refine skip_ (w1 := ?_) (by rfl) rfl ?_ ?_
          rotate_left
          · go_simp
            rfl
          refine hK.out _ _ ?_
          clear hK K
          refine done_ (by kernel_rfl) ?_
          have HB8 := Aside0.mk (blk_put HA7.out 0 (.slice V7 (c.tables.length + 1) vc7) (cs' := #[.slice V7 (c.tables.length + 1) vc7, .slice V2 c.procs.length k2]) rfl)
          have m8 := mod_setCell w7 bx 0 (.slice V7 (c.tables.length + 1) vc7)
          obtain ⟨w8, hw8⟩ : ∃ u, u = w7.setCell ⟨bx, 0, none⟩ (.slice V7 (c.tables.length + 1) vc7) := ⟨_, rfl⟩
          rw [← hw8]
          rw [← hw8] at HB8 m8
          have M8 := Aside0.mk m8
          have hbx3 : w.heap.size + 3 ≤ bx := by have := S4.out.sz; have := HBX.out; omega
          have S8 := Aside0.mk (S7.out.mod m8 (fun i hi => by omega))
          clear z1 z2 hHeld q0 g0 g1 g2 g3 g4 hw8 m8
          have x0 : w8.cell? ⟨bx, 0, none⟩ = some (.slice V7 (c.tables.length + 1) vc7) := blk_cell HB8.out 0
          have x1 : w8.cell? ⟨bx, 1, none⟩ = some (.slice V2 c.procs.length k2) := blk_cell HB8.out 1
          have fz0 : w8.frozen? ⟨w.heap.size + 1 + 1, 0, none⟩ = false := blk_frozen S8.out.b3 _
          have fz1 : w8.frozen? ⟨w.heap.size + 1 + 1, 1, none⟩ = false := blk_frozen S8.out.b3 _
          have fz2 : w8.cell? ⟨w.heap.size + 1 + 1, 0, none⟩ = some (.slice none 0 0) := blk_cell S8.out.b3 0
          have fz3 : w8.cell? ⟨w.heap.size + 1 + 1, 1, none⟩ = some (.slice none 0 0) := blk_cell S8.out.b3 1
          go_wp2_with fail
          have hE := (S8.out.set3 0 (.slice V7 (c.tables.length + 1) vc7) rfl).set3 1 (.slice V2 c.procs.length k2) rfl
          have hm := (mod_setCell w8 (w.heap.size + 1 + 1) 0 (.slice V7 (c.tables.length + 1) vc7)).trans (mod_setCell _ _ 1 (.slice V2 c.procs.length k2))
          refine bodyPost_ret (results_row_tmp rfl _ _ (w.heap.size + 1 + 1) 25 #[.slice V7 (c.tables.length + 1) vc7, .slice V2 c.procs.length k2] (0, 0) _ rfl hE.b3 Try.underlying25 rfl (by kernel_rfl)) rfl ?_
          have hres : addTab c t = (0, ⟨c.tables ++ [t], c.procs⟩) := by
            unfold addTab
            rw [if_pos ⟨HR.out, HM.out⟩, if_neg HIN.out, if_neg (by have := HR.out.1; omega)]
          rw [hres]
          have hs3 := S3.out.sz
          have hne8 : kTab.R 30 w8 u3.heap.size (fun k => u3.heap.size ≤ k ∧ k ≠ bx) (.slice V7 (c.tables.length + 1) vc7) (c.tables ++ [t]) := Kd.R_step hO7.out (fun i hi hl => M8.out.block i hl hi.2)
          exact ⟨_, _, rfl, ⟨Kd.R_mono (Kd.R_lower (Kd.R_step hne8 (fun i hi hl => hm.block i hl (by omega))) (by omega)) (fun _ _ => trivial), Kd.R_mono (Kd.R_lower (Kd.R_step (Kd.R_step hT7.out (fun i hi hl => M8.out.block i hl (by have := HBX.out; omega))) (fun i hi hl => hm.block i hl (by omega))) (by omega)) (fun _ _ => trivial)⟩, hE.bel⟩
    · rw [decide_eq_false hM]
      have HM := Lib.hid hM
      clear hM
      have k0 : u2.frozen? ⟨w.heap.size + 1 + 1, 0, none⟩ = false := blk_frozen S2.out.b3 _
      have k1 : u2.frozen? ⟨w.heap.size + 1 + 1, 1, none⟩ = false := blk_frozen S2.out.b3 _
      have k2 : u2.cell? ⟨w.heap.size + 1 + 1, 0, none⟩ = some (.slice none 0 0) := blk_cell S2.out.b3 0
      have k3 : u2.cell? ⟨w.heap.size + 1 + 1, 1, none⟩ = some (.slice none 0 0) := blk_cell S2.out.b3 1
      go_wp2_with fail
      refine bodyPost_ret (results_row_tmp rfl _ _ (w.heap.size + 1 + 1) 25 #[.slice none 0 0, .slice none 0 0] (0, 0) _ rfl ((S2.out.set3 0 (.slice none 0 0) rfl).set3 1 (.slice none 0 0) rfl).b3 Try.underlying25 rfl (by kernel_rfl)) rfl ?_
      exact refuse_end S2.out (by unfold addTab; rw [if_neg (fun h => HM.out h.2)])
  · rw [decide_eq_false hR]
    have HR := Lib.hid hR
    clear hR
    have k0 : u1.frozen? ⟨w.heap.size + 1 + 1, 0, none⟩ = false := blk_frozen S1.out.b3 _
    have k1 : u1.frozen? ⟨w.heap.size + 1 + 1, 1, none⟩ = false := blk_frozen S1.out.b3 _
    have k2 : u1.cell? ⟨w.heap.size + 1 + 1, 0, none⟩ = some (.slice none 0 0) := blk_cell S1.out.b3 0
    have k3 : u1.cell? ⟨w.heap.size + 1 + 1, 1, none⟩ = some (.slice none 0 0) := blk_cell S1.out.b3 1
    go_wp2_with fail
    refine bodyPost_ret (results_row_tmp rfl _ _ (w.heap.size + 1 + 1) 25 #[.slice none 0 0, .slice none 0 0] (0, 0) _ rfl ((S1.out.set3 0 (.slice none 0 0) rfl).set3 1 (.slice none 0 0) rfl).b3 Try.underlying25 rfl (by kernel_rfl)) rfl ?_
    exact refuse_end S1.out (by unfold addTab; rw [if_neg (fun h => HR.out h.1)])
set_option maxRecDepth 100000 in
set_option maxHeartbeats 8000000 in
theorem addPrc_any (c : Cat) (A1 : Option Addr) (c1 : Nat) (A2 : Option Addr) (c2 : Nat) (t : Prc) (A3 : Option Addr) (d3 : Nat) (A4 : Option Addr) (d4 : Nat) (w : World)
    (hC1 : kTab.C w A1 c.tables.length c.tables) (hC2 : kPrc.C w A2 c.procs.length c.procs) (hz : SzCat c) (hX1 : kPrm.C w A3 t.params.length t.params) (hX2 : Kd.string.C w A4 t.body.length t.body) (hzt : SzPrc t) :
    Calls Try.prog 15 #[.agg #[.slice A1 c.tables.length c1, .slice A2 c.procs.length c2], .agg #[.string t.name, .slice A3 t.params.length d3, .slice A4 t.body.length d4, .int .i64 t.rows, .int .i64 t.bytes]] w (CatOut (addPrc c t) w) := by
  have HC1 := Aside0.mk hC1
  have HC2 := Aside0.mk hC2
  have HZ := Lib.hid hz
  have HZT := Lib.hid hzt
  have hz1 := hz.1
  have hz2 := hz.2.1
  have HX1 := Aside0.mk hX1
  have HX2 := Aside0.mk hX2
  clear hC1 hC2 hz hzt hX1 hX2
  have hst := St3.start w (catBox c.tables.length c.procs.length A1 c1 A2 c2) (prcBox t A3 d3 A4 d4) zCat
  have hw0 : ((w.alloc (Obj.cells #[.slice A1 c.tables.length c1, .slice A2 c.procs.length c2] 25)).alloc (Obj.cells #[.string t.name, .slice A3 t.params.length d3, .slice A4 t.body.length d4, .int .i64 t.rows, .int .i64 t.bytes] 34)).alloc (Obj.cells #[.slice none 0 0, .slice none 0 0] 25) = ((w.alloc (catBox c.tables.length c.procs.length A1 c1 A2 c2)).alloc (prcBox t A3 d3 A4 d4)).alloc zCat := rfl
  obtain ⟨W, hW⟩ : ∃ W, W = ((w.alloc (catBox c.tables.length c.procs.length A1 c1 A2 c2)).alloc (prcBox t A3 d3 A4 d4)).alloc zCat := ⟨_, rfl⟩
  rw [← hW] at hst hw0
  have HW0 := Aside0.mk hw0
  have S0 := Aside0.mk hst
  clear hW hw0 hst
  go_enter Try.func15, Try.ntmps15
  have f0 : W.cell? ⟨w.heap.size, 0, none⟩ = some (.slice A1 c.tables.length c1) := blk_cell S0.out.b1 0
  have f1 : W.cell? ⟨w.heap.size, 1, none⟩ = some (.slice A2 c.procs.length c2) := blk_cell S0.out.b1 1
  go_wp2_with fail
  rw [HW0.out]
  refine (right_any c A1 c1 A2 c2 W (Kd.C_below HC1.out S0.out.bel) (Kd.C_below HC2.out S0.out.bel)).mono ?_
  rintro e u1 ⟨rfl, hb1⟩
  have S1 := Aside0.mk (S0.out.below hb1)
  clear hb1 f0 f1
  have g0 : u1.cell? ⟨w.heap.size + 1, 0, none⟩ = some (.string t.name) := blk_cell S1.out.b2 0
  have g1 : u1.cell? ⟨w.heap.size + 1, 1, none⟩ = some (.slice A3 t.params.length d3) := blk_cell S1.out.b2 1
  have g2 : u1.cell? ⟨w.heap.size + 1, 2, none⟩ = some (.slice A4 t.body.length d4) := blk_cell S1.out.b2 2
  have g3 : u1.cell? ⟨w.heap.size + 1, 3, none⟩ = some (.int .i64 t.rows) := blk_cell S1.out.b2 3
  have g4 : u1.cell? ⟨w.heap.size + 1, 4, none⟩ = some (.int .i64 t.bytes) := blk_cell S1.out.b2 4
  by_cases hR : RightCat c
  · rw [decide_eq_true hR]
    have HR := Lib.hid hR
    clear hR
    go_wp2_with fail
    refine (mayPrc_any t A3 d3 A4 d4 u1 (Kd.C_below HX1.out S1.out.bel) (Kd.C_below HX2.out S1.out.bel)).mono ?_
    rintro e u2 ⟨rfl, hb2⟩
    have S2 := Aside0.mk (S1.out.below hb2)
    clear hb2 g0 g1 g2 g3 g4
    by_cases hM : MayPrc t
    · rw [decide_eq_true hM]
      have HM := Lib.hid hM
      clear hM
      have f0 : u2.cell? ⟨w.heap.size, 0, none⟩ = some (.slice A1 c.tables.length c1) := blk_cell S2.out.b1 0
      have f1 : u2.cell? ⟨w.heap.size, 1, none⟩ = some (.slice A2 c.procs.length c2) := blk_cell S2.out.b1 1
      have g0 : u2.cell? ⟨w.heap.size + 1, 0, none⟩ = some (.string t.name) := blk_cell S2.out.b2 0
      go_wp2_with fail
      refine (findProc_any A1 c.tables.length c1 A2 c.procs.length c2 c.procs t.name u2 (Kd.C_below HC2.out S2.out.bel)).mono ?_
      rintro e u3 ⟨rfl, hb3⟩
      have S3 := Aside0.mk (S2.out.below hb3)
      clear hb3 f0 f1 g0
      by_cases hin : t.name ∈ c.procs.map (·.name)
      · obtain ⟨r, hr, _⟩ := foundV_some hin
        have HIN := Lib.hid hin
        rw [hr]
        clear hr hin
        have k0 : u3.frozen? ⟨w.heap.size + 1 + 1, 0, none⟩ = false := blk_frozen S3.out.b3 _
        have k1 : u3.frozen? ⟨w.heap.size + 1 + 1, 1, none⟩ = false := blk_frozen S3.out.b3 _
        have k2 : u3.cell? ⟨w.heap.size + 1 + 1, 0, none⟩ = some (.slice none 0 0) := blk_cell S3.out.b3 0
        have k3 : u3.cell? ⟨w.heap.size + 1 + 1, 1, none⟩ = some (.slice none 0 0) := blk_cell S3.out.b3 1
        go_wp2_with fail
        refine bodyPost_ret (results_row_tmp rfl _ _ (w.heap.size + 1 + 1) 25 #[.slice none 0 0, .slice none 0 0] (0, 0) _ rfl ((S3.out.set3 0 (.slice none 0 0) rfl).set3 1 (.slice none 0 0) rfl).b3 Try.underlying25 rfl (by kernel_rfl)) rfl ?_
        exact refuse_end S3.out (by unfold addPrc; rw [if_pos ⟨HR.out, HM.out⟩, if_pos HIN.out])
      · rw [foundV_none hin]
        have HIN := Lib.hid hin
        clear hin
        have f0 : u3.cell? ⟨w.heap.size, 1, none⟩ = some (.slice A2 c.procs.length c2) := blk_cell S3.out.b1 1
        by_cases hl : c.procs.length = 16
        · have he : ((c.procs.length : Int) == 16) = true := by rw [beq_iff_eq]; omega
          have HL := Lib.hid hl
          clear hl
          have k0 : u3.frozen? ⟨w.heap.size + 1 + 1, 0, none⟩ = false := blk_frozen S3.out.b3 _
          have k1 : u3.frozen? ⟨w.heap.size + 1 + 1, 1, none⟩ = false := blk_frozen S3.out.b3 _
          have k2 : u3.cell? ⟨w.heap.size + 1 + 1, 0, none⟩ = some (.slice none 0 0) := blk_cell S3.out.b3 0
          have k3 : u3.cell? ⟨w.heap.size + 1 + 1, 1, none⟩ = some (.slice none 0 0) := blk_cell S3.out.b3 1
          go_wp2_with fail
          refine bodyPost_ret (results_row_tmp rfl _ _ (w.heap.size + 1 + 1) 25 #[.slice none 0 0, .slice none 0 0] (0, 0) _ rfl ((S3.out.set3 0 (.slice none 0 0) rfl).set3 1 (.slice none 0 0) rfl).b3 Try.underlying25 rfl (by kernel_rfl)) rfl ?_
          exact refuse_end S3.out (by unfold addPrc; rw [if_pos ⟨HR.out, HM.out⟩, if_neg HIN.out, if_pos (by have := HL.out; omega)])
        · have he : ((c.procs.length : Int) == 16) = false := by rw [beq_eq_false_iff_ne]; omega
          have f00 : u3.cell? ⟨w.heap.size, 0, none⟩ = some (.slice A1 c.tables.length c1) := blk_cell S3.out.b1 0
          have f01 : u3.cell? ⟨w.heap.size, 1, none⟩ = some (.slice A2 c.procs.length c2) := blk_cell S3.out.b1 1
          go_wp2_with fail
          refine (of_any c A1 c1 A2 c2 u3 (Kd.C_below HC1.out S3.out.bel) (Kd.C_below HC2.out S3.out.bel) HZ.out).mono ?_
          rintro e u4 ⟨v1, v2, rfl, ⟨hr1, hr2⟩, hb4⟩
          obtain ⟨V1, k1, hv1⟩ := Kd.R_slice hr1
          obtain ⟨V2, k2, hv2⟩ := Kd.R_slice hr2
          subst hv1 hv2
          have S4 := Aside0.mk (S3.out.below hb4)
          have R1 := Aside0.mk (Kd.R_bound hr1)
          have R2 := Aside0.mk (Kd.R_bound hr2)
          have hz3 := Lib.hid hb4.size
          clear hr1 hr2 hb4 f0 f00 f01
          go_wp2_with fail
          obtain ⟨bx, hbx⟩ : ∃ bx, bx = u4.heap.size := ⟨_, rfl⟩
          obtain ⟨wa, hwa⟩ : ∃ wa, wa = u4.alloc (Obj.cells #[.slice V1 c.tables.length k1, .slice V2 c.procs.length k2] 25) := ⟨_, rfl⟩
          have hA0 : Below u4.heap.size u4 wa := by rw [hwa]; exact below_alloc (Below.refl _ _) _
          have hA1 : wa.heap[bx]? = some (Obj.cells #[.slice V1 c.tables.length k1, .slice V2 c.procs.length k2] 25) := by rw [hwa, hbx]; exact blk_alloc _ _
          have hbs : wa.heap.size = bx + 1 := by rw [hwa, hbx]; simp
          rw [← hwa, ← hbx]
          have SA := Aside0.mk ((S4.out.below hA0).below (below_drew (Below.refl _ _)))
          have HA0 := Aside0.mk hA0
          have HA1 := Aside0.mk hA1
          have HBX := Lib.hid hbx
          have HBS := Lib.hid hbs
          have R1a := Aside0.mk (Kd.R_below R1.out (show Below u4.heap.size u4 wa.drew from below_drew hA0))
          have R2a := Aside0.mk (Kd.R_below R2.out (show Below u4.heap.size u4 wa.drew from below_drew hA0))
          clear hwa hbx hA0 hA1 hbs
          have q0 : wa.drew.cell? ⟨bx, 1, none⟩ = some (.slice V2 c.procs.length k2) := blk_cell HA1.out 1
          have g0 : wa.drew.cell? ⟨w.heap.size + 1, 0, none⟩ = some (.string t.name) := blk_cell SA.out.b2 0
          have g1 : wa.drew.cell? ⟨w.heap.size + 1, 1, none⟩ = some (.slice A3 t.params.length d3) := blk_cell SA.out.b2 1
          have g2 : wa.drew.cell? ⟨w.heap.size + 1, 2, none⟩ = some (.slice A4 t.body.length d4) := blk_cell SA.out.b2 2
          have g3 : wa.drew.cell? ⟨w.heap.size + 1, 3, none⟩ = some (.int .i64 t.rows) := blk_cell SA.out.b2 3
          have g4 : wa.drew.cell? ⟨w.heap.size + 1, 4, none⟩ = some (.int .i64 t.bytes) := blk_cell SA.out.b2 4
          refine start_ (n := 8) (S := fun w' => w'.cell? ⟨bx, 1, none⟩ = some (.slice V2 c.procs.length k2) ∧ w'.cell? ⟨w.heap.size + 1, 0, none⟩ = some (.string t.name) ∧ w'.cell? ⟨w.heap.size + 1, 1, none⟩ = some (.slice A3 t.params.length d3) ∧ w'.cell? ⟨w.heap.size + 1, 2, none⟩ = some (.slice A4 t.body.length d4) ∧ w'.cell? ⟨w.heap.size + 1, 3, none⟩ = some (.int .i64 t.rows) ∧ w'.cell? ⟨w.heap.size + 1, 4, none⟩ = some (.int .i64 t.bytes)) (ds := [7]) #[false, false, false, false, false, false, false, false] (by kernel_rfl) rfl rfl ⟨q0, g0, g1, g2, g3, g4⟩ (fun hHeld => ?_)
          refine pure_ (i := 0) (N := some 35) (v := ?_) (a' := ?_) #[true, false, false, false, false, false, false, false] rfl rfl (by kernel_rfl) (fun _ _ _ h => h) (Or.inl ⟨by rfl, ?_⟩) ?_ ?_
          rotate_left
          · intro w'
            go_simp
            with_reducible rfl
          rotate_left
          · simp only [Act.put, List.setIfInBounds_toArray, List.set_cons_zero, List.set_cons_succ, i64_w, i32_w]
            rfl
          refine take_ (i := 1) (N := some 36) (v := ?_) (a' := ?_) #[true, true, false, false, false, false, false, false] rfl rfl (by kernel_rfl) (fun _ _ _ h => h) (Or.inl ⟨by rfl, ?_⟩) hHeld ?_ ?_
          rotate_left
          · rintro w' ⟨s0, s1, s2, s3, s4, s5⟩
            go_simp
            with_reducible rfl
          rotate_left
          · simp only [Act.put, List.setIfInBounds_toArray, List.set_cons_zero, List.set_cons_succ, i64_w, i32_w]
            rfl
          refine take_ (i := 2) (N := some 37) (v := ?_) (a' := ?_) #[true, true, true, false, false, false, false, false] rfl rfl (by kernel_rfl) (fun _ _ _ h => h) (Or.inl ⟨by rfl, ?_⟩) hHeld ?_ ?_
          rotate_left
          · rintro w' ⟨s0, s1, s2, s3, s4, s5⟩
            go_simp
            with_reducible rfl
          rotate_left
          · simp only [Act.put, List.setIfInBounds_toArray, List.set_cons_zero, List.set_cons_succ, i64_w, i32_w]
            rfl
          refine one_ (i := 3) (N := some 38) #[true, true, true, true, false, false, false, false] rfl rfl (by kernel_rfl) (by decide) (fun K hK => ?_)
          refine goes_ Try.func40 (by kernel_rfl) rfl #[.agg #[.string t.name, .slice A3 t.params.length d3, .slice A4 t.body.length d4, .int .i64 t.rows, .int .i64 t.bytes]] (by rfl) rfl rfl (by simp only [List.map_toArray, List.map_cons, List.map_nil]; rfl) ?_
          with_reducible refine (prcOf_any t A3 d3 A4 d4 wa.drew (Kd.C_below HX1.out SA.out.bel) (Kd.C_below HX2.out SA.out.bel) HZT.out).mono ?_
          rintro e w5 ⟨v3, v4, rfl, ⟨hr1, hr2⟩, hb5⟩
          refine ⟨_, rfl, ?_⟩
          obtain ⟨Y1, y1, hv1⟩ := Kd.R_slice hr1
          subst hv1
          obtain ⟨Y2, y2, hv2⟩ := Kd.R_slice hr2
          subst hv2
          have HMM : Aside0 (kPrc.M w5 wa.drew.heap.size (fun _ => True) t [.string t.name, .slice Y1 t.params.length y1, .slice Y2 t.body.length y2, .int .i64 t.rows, .int .i64 t.bytes]) := ⟨kPrc_M.2 ⟨_, _, rfl, hr1, hr2⟩⟩
          have S5 := Aside0.mk (SA.out.below hb5)
          have R1b := Aside0.mk (Kd.R_below R1a.out hb5)
          have R2b := Aside0.mk (Kd.R_below R2a.out hb5)
          have HS5 := Lib.hid hb5.size
          have HA5 := Aside0.mk (blk_below (w := wa.drew) HA1.out hb5)
          clear hr1 hr2 hb5
          refine hK.out _ _ ⟨blk_cell HA5.out 1, blk_cell S5.out.b2 0, blk_cell S5.out.b2 1, blk_cell S5.out.b2 2, blk_cell S5.out.b2 3, blk_cell S5.out.b2 4⟩ (fun hHeld => ?_)
          clear hK K
          refine norm_ (a' := ?_) ?_ ?_
          rotate_left
          · show Act.put _ (some 38) _ = _
            simp only [Act.put, List.setIfInBounds_toArray, List.set_cons_zero, List.set_cons_succ, i64_w, i32_w]
            rfl
          refine one_ (i := 4) (N := some 39) #[true, true, true, true, true, false, false, false] rfl rfl (by kernel_rfl) (by decide) (fun K hK => ?_)
          refine value_ (w1 := ?_) (v := ?_) (by rfl) rfl ?_ ?_
          rotate_left 2
          · go_simp
            constructor
            · rfl
            · rfl
          have S6 := Aside0.mk (S5.out.alloc (Obj.cells #[.string t.name, .slice Y1 t.params.length y1, .slice Y2 t.body.length y2, .int .i64 t.rows, .int .i64 t.bytes] 34))
          have HA6 := Aside0.mk (blk_alloc' (o' := (Obj.cells #[.string t.name, .slice Y1 t.params.length y1, .slice Y2 t.body.length y2, .int .i64 t.rows, .int .i64 t.bytes] 34)) HA5.out)
          refine hK.out _ _ ⟨blk_cell HA6.out 1, blk_cell S6.out.b2 0, blk_cell S6.out.b2 1, blk_cell S6.out.b2 2, blk_cell S6.out.b2 3, blk_cell S6.out.b2 4⟩ (fun hHeld => ?_)
          clear hK K
          refine norm_ (a' := ?_) ?_ ?_
          rotate_left
          · show Act.put _ (some 39) _ = _
            simp only [Act.put, List.setIfInBounds_toArray, List.set_cons_zero, List.set_cons_succ, i64_w, i32_w]
            rfl
          refine one_ (i := 5) (N := some 40) #[true, true, true, true, true, true, false, false] rfl rfl (by kernel_rfl) (by decide) (fun K hK => ?_)
          refine Kd.R_append_step kPrc (w0 := w5) u3.heap.size (by rfl) (.tmp 36) (.tmp 39) 23 34 _ 80 rfl Try.underlying23 info34 rfl (by decide) (by omega) _ c.procs t [.string t.name, .slice Y1 t.params.length y1, .slice Y2 t.body.length y2, .int .i64 t.rows, .int .i64 t.bytes] (fun k => u3.heap.size ≤ k ∧ k ≠ bx) (fun k => wa.drew.heap.size ≤ k) (by rfl) (by rfl) ?aP ?aK ?aF ?aO ?aB ?aS ?aL ?_
          case aP => exact kPrc.M_lower (Nat.le_trans hz3.out HA0.out.size) (kPrc.M_mono (fun k hk => hk.2.1) (kPrc.M_bound HMM.out))
          case aK => exact fun i hi => ⟨⟨Nat.le_trans (Nat.le_trans hz3.out HA0.out.size) hi, by have h2 := HBS.out; have h3 : wa.drew.heap.size = wa.heap.size := rfl; omega⟩, fun he => by have h1 := Kd.R_lt R2.out i he.symm; have h2 := HA0.out.size; have h3 : wa.drew.heap.size = wa.heap.size := rfl; omega⟩
          case aF => exact fun i hi => by have h5 := HBS.out; have h1 := HS5.out; have h2 := HA0.out.size; have h3 : wa.drew.heap.size = wa.heap.size := rfl; have h4 := hz3.out; omega
          case aO => exact Kd.R_mono R2b.out (fun i hi => ⟨hi.2.1, by have h1 := hi.2.2.1; have h2 := HBX.out; omega⟩)
          case aB => exact Below.refl _ _
          case aS => have h1 := HS5.out; have h2 := HA0.out.size; have h3 : wa.drew.heap.size = wa.heap.size := rfl; have h4 := hz3.out; omega
          case aL => omega
          intro v7 w7 ho7 hb7 hg7 hat7
          obtain ⟨V7, vc7, hv7⟩ := Kd.R_slice ho7
          rw [List.length_append, List.length_singleton] at hv7
          have hO7 := Aside0.mk ho7
          have hT7 := Aside0.mk (Kd.R_over (Kd.R_mono (ok' := fun k => u3.heap.size ≤ k ∧ k < u4.heap.size) R1b.out (fun i hi => ⟨hi.2.1, hi.2.2.1⟩)) R2b.out (by intro q hq; have hq2 : q = 30 ∨ q = 62 ∨ q = 3 ∨ q = 64 ∨ q = 3 := (by simpa [kTab, kCol, kIdx, Kd.iso, Kd.pair, Kd.slice, Kd.string, Kd.int, Kd.bool, Kd.scalar] using hq); omega) hg7)
          have hm7 : Mod w5 w7 (fun i => u3.heap.size ≤ i ∧ some i = (Value.slice V2 c.procs.length k2).ownBlock) := ⟨hb7.os, hb7.tape, hb7.output, hg7.size, fun i hi hn => by rcases Nat.lt_or_ge i u3.heap.size with h | h; exact hb7.block i h; exact hg7.block i hi (fun he => hn ⟨h, he⟩)⟩
          have S7 := Aside0.mk (S5.out.mod hm7 (fun i hi => by have := S3.out.sz; have := hi.1; omega))
          have HA7 := Aside0.mk (blk_mod HA5.out hm7 (fun h => by have := Kd.R_lt R2.out bx h.2.symm; have := HBX.out; omega))
          subst hv7
          have hsz7 := Lib.hid hg7.size
          clear ho7 hb7 hg7 hat7 hm7
          refine hK.out _ _ ⟨blk_cell HA7.out 1, blk_cell S7.out.b2 0, blk_cell S7.out.b2 1, blk_cell S7.out.b2 2, blk_cell S7.out.b2 3, blk_cell S7.out.b2 4⟩ (fun hHeld => ?_)
          clear hK K
          refine norm_ (a' := ?_) ?_ ?_
          rotate_left
          · show Act.put _ (some 40) _ = _
            simp only [Act.put, List.setIfInBounds_toArray, List.set_cons_zero, List.set_cons_succ, i64_w, i32_w]
            rfl
          refine pure_ (i := 6) (N := some 41) (v := ?_) (a' := ?_) #[true, true, true, true, true, true, true, false] rfl rfl (by kernel_rfl) (fun _ _ _ h => h) (Or.inl ⟨by rfl, ?_⟩) ?_ ?_
          rotate_left
          · intro w'
            go_simp
            with_reducible rfl
          rotate_left
          · simp only [Act.put, List.setIfInBounds_toArray, List.set_cons_zero, List.set_cons_succ, i64_w, i32_w]
            rfl
          refine last_ (i := 7) (N := none) #[true, true, true, true, true, true, true, true] rfl rfl (by kernel_rfl) (by decide) (fun K hK => ?_)
          have z1 := blk_cell HA7.out 1
          have z2 := blk_frozen HA7.out 1
          refine skip_ (w1 := ?_) (by rfl) rfl ?_ ?_
          rotate_left
          · go_simp
            rfl
          refine hK.out _ _ ?_
          clear hK K
          refine done_ (by kernel_rfl) ?_
          have HB8 := Aside0.mk (blk_put HA7.out 1 (.slice V7 (c.procs.length + 1) vc7) (cs' := #[.slice V1 c.tables.length k1, .slice V7 (c.procs.length + 1) vc7]) rfl)
          have m8 := mod_setCell w7 bx 1 (.slice V7 (c.procs.length + 1) vc7)
          obtain ⟨w8, hw8⟩ : ∃ u, u = w7.setCell ⟨bx, 1, none⟩ (.slice V7 (c.procs.length + 1) vc7) := ⟨_, rfl⟩
          rw [← hw8]
          rw [← hw8] at HB8 m8
          have M8 := Aside0.mk m8
          have hbx3 : w.heap.size + 3 ≤ bx := by have := S4.out.sz; have := HBX.out; omega
          have S8 := Aside0.mk (S7.out.mod m8 (fun i hi => by omega))
          clear z1 z2 hHeld q0 g0 g1 g2 g3 g4 hw8 m8
          have x0 : w8.cell? ⟨bx, 0, none⟩ = some (.slice V1 c.tables.length k1) := blk_cell HB8.out 0
          have x1 : w8.cell? ⟨bx, 1, none⟩ = some (.slice V7 (c.procs.length + 1) vc7) := blk_cell HB8.out 1
          have fz0 : w8.frozen? ⟨w.heap.size + 1 + 1, 0, none⟩ = false := blk_frozen S8.out.b3 _
          have fz1 : w8.frozen? ⟨w.heap.size + 1 + 1, 1, none⟩ = false := blk_frozen S8.out.b3 _
          have fz2 : w8.cell? ⟨w.heap.size + 1 + 1, 0, none⟩ = some (.slice none 0 0) := blk_cell S8.out.b3 0
          have fz3 : w8.cell? ⟨w.heap.size + 1 + 1, 1, none⟩ = some (.slice none 0 0) := blk_cell S8.out.b3 1
          go_wp2_with fail
          have hE := (S8.out.set3 0 (.slice V1 c.tables.length k1) rfl).set3 1 (.slice V7 (c.procs.length + 1) vc7) rfl
          have hm := (mod_setCell w8 (w.heap.size + 1 + 1) 0 (.slice V1 c.tables.length k1)).trans (mod_setCell _ _ 1 (.slice V7 (c.procs.length + 1) vc7))
          refine bodyPost_ret (results_row_tmp rfl _ _ (w.heap.size + 1 + 1) 25 #[.slice V1 c.tables.length k1, .slice V7 (c.procs.length + 1) vc7] (0, 0) _ rfl hE.b3 Try.underlying25 rfl (by kernel_rfl)) rfl ?_
          have hres : addPrc c t = (0, ⟨c.tables, c.procs ++ [t]⟩) := by
            unfold addPrc
            rw [if_pos ⟨HR.out, HM.out⟩, if_neg HIN.out, if_neg (by have := HR.out.2.1; omega)]
          rw [hres]
          have hs3 := S3.out.sz
          have hne8 : kPrc.R 34 w8 u3.heap.size (fun k => u3.heap.size ≤ k ∧ k ≠ bx) (.slice V7 (c.procs.length + 1) vc7) (c.procs ++ [t]) := Kd.R_step hO7.out (fun i hi hl => M8.out.block i hl hi.2)
          exact ⟨_, _, rfl, ⟨Kd.R_mono (Kd.R_lower (Kd.R_step (Kd.R_step hT7.out (fun i hi hl => M8.out.block i hl (by have := HBX.out; omega))) (fun i hi hl => hm.block i hl (by omega))) (by omega)) (fun _ _ => trivial), Kd.R_mono (Kd.R_lower (Kd.R_step hne8 (fun i hi hl => hm.block i hl (by omega))) (by omega)) (fun _ _ => trivial)⟩, hE.bel⟩
    · rw [decide_eq_false hM]
      have HM := Lib.hid hM
      clear hM
      have k0 : u2.frozen? ⟨w.heap.size + 1 + 1, 0, none⟩ = false := blk_frozen S2.out.b3 _
      have k1 : u2.frozen? ⟨w.heap.size + 1 + 1, 1, none⟩ = false := blk_frozen S2.out.b3 _
      have k2 : u2.cell? ⟨w.heap.size + 1 + 1, 0, none⟩ = some (.slice none 0 0) := blk_cell S2.out.b3 0
      have k3 : u2.cell? ⟨w.heap.size + 1 + 1, 1, none⟩ = some (.slice none 0 0) := blk_cell S2.out.b3 1
      go_wp2_with fail
      refine bodyPost_ret (results_row_tmp rfl _ _ (w.heap.size + 1 + 1) 25 #[.slice none 0 0, .slice none 0 0] (0, 0) _ rfl ((S2.out.set3 0 (.slice none 0 0) rfl).set3 1 (.slice none 0 0) rfl).b3 Try.underlying25 rfl (by kernel_rfl)) rfl ?_
      exact refuse_end S2.out (by unfold addPrc; rw [if_neg (fun h => HM.out h.2)])
  · rw [decide_eq_false hR]
    have HR := Lib.hid hR
    clear hR
    have k0 : u1.frozen? ⟨w.heap.size + 1 + 1, 0, none⟩ = false := blk_frozen S1.out.b3 _
    have k1 : u1.frozen? ⟨w.heap.size + 1 + 1, 1, none⟩ = false := blk_frozen S1.out.b3 _
    have k2 : u1.cell? ⟨w.heap.size + 1 + 1, 0, none⟩ = some (.slice none 0 0) := blk_cell S1.out.b3 0
    have k3 : u1.cell? ⟨w.heap.size + 1 + 1, 1, none⟩ = some (.slice none 0 0) := blk_cell S1.out.b3 1
    go_wp2_with fail
    refine bodyPost_ret (results_row_tmp rfl _ _ (w.heap.size + 1 + 1) 25 #[.slice none 0 0, .slice none 0 0] (0, 0) _ rfl ((S1.out.set3 0 (.slice none 0 0) rfl).set3 1 (.slice none 0 0) rfl).b3 Try.underlying25 rfl (by kernel_rfl)) rfl ?_
    exact refuse_end S1.out (by unfold addPrc; rw [if_neg (fun h => HR.out h.1)])
end Go.Proofs.Ytcmgdieeclninaa
