/- Layer 8: the walk of of. -/
import Derived.Test.YtcmgdieeclninaaD24
set_option linter.unusedVariables false
set_option linter.unusedSimpArgs false
namespace Go.Proofs.Ytcmgdieeclninaa
open Go.RowKit Go.Proofs.YtcmgdieeclninaaW.PrintWords Go.Proofs.YtcmgdieeclninaaW.PrintLast
set_option maxRecDepth 100000 in
set_option maxHeartbeats 8000000 in
theorem of_any (c : Cat) (A1 : Option Addr) (c1 : Nat) (A2 : Option Addr) (c2 : Nat) (w : World)
    (hC1 : kTab.C w A1 c.tables.length c.tables) (hC2 : kPrc.C w A2 c.procs.length c.procs) (hz : SzCat c) :
    Calls Try.prog 37 #[.agg #[.slice A1 c.tables.length c1, .slice A2 c.procs.length c2]] w fun e w' => ∃ v1 v2, e = .returned (.agg #[v1, v2]) ∧
      (kTab.R 30 w' w.heap.size (fun _ => True) v1 c.tables ∧ kPrc.R 34 w' w.heap.size (fun _ => True) v2 c.procs) ∧ Below w.heap.size w w' := by
  have HC1 := Aside0.mk hC1
  have HC2 := Aside0.mk hC2
  have hn1 := hC1.2.1
  have hn2 := hC2.2.1
  have HZ := Lib.hid hz
  have hz1 := hz.1
  have hz2 := hz.2.1
  clear hC1 hC2 hz
  have hst := St3.start w (catBox c.tables.length c.procs.length A1 c1 A2 c2) zCat zCat
  have hw0 : ((w.alloc (Obj.cells #[.slice A1 c.tables.length c1, .slice A2 c.procs.length c2] 25)).alloc (Obj.cells #[.slice none 0 0, .slice none 0 0] 25)).alloc (Obj.cells #[.slice none 0 0, .slice none 0 0] 25) = ((w.alloc (catBox c.tables.length c.procs.length A1 c1 A2 c2)).alloc zCat).alloc zCat := rfl
  obtain ⟨W, hW⟩ : ∃ W, W = ((w.alloc (catBox c.tables.length c.procs.length A1 c1 A2 c2)).alloc zCat).alloc zCat := ⟨_, rfl⟩
  rw [← hW] at hst hw0
  have HW0 := Aside0.mk hw0
  have S0 := Aside0.mk hst
  have hWs : W.heap.size = w.heap.size + 3 := by rw [hW]; simp
  have HWS := Lib.hid hWs
  clear hW hw0 hst hWs
  have f0 : W.cell? ⟨w.heap.size, 0, none⟩ = some (.slice A1 c.tables.length c1) := blk_cell S0.out.b1 0
  go_enter Try.func37, Try.ntmps37
  go_wp2_with fail
  rw [HW0.out]
  go_wp2_with fail
  clear f0
  go_loopg [11] c.tables.length (fun gn i wr => ∃ (k : Nat) (v : Value), i = .int .i64 k ∧ Aside0 (k + gn = c.tables.length) ∧ Aside0 (St3 w wr (catBox c.tables.length c.procs.length A1 c1 A2 c2) zCat (.cells #[v, .slice none 0 0] 25 (0, 0))) ∧ Aside0 (kTab.R 30 wr W.heap.size (fun k => W.heap.size ≤ k) v (c.tables.take k)))
  case atStart => exact ⟨0, .slice none 0 0, rfl, ⟨by omega⟩, S0, ⟨Kd.R_nil _ _ _ _ _⟩⟩
  case round =>
    obtain ⟨k, v, rfl, ⟨hgn⟩, hS, hR⟩ := hrel
    have HGN := Lib.hid hgn
    clear hgn
    obtain ⟨L, hL⟩ : ∃ L, L = c.tables.take k := ⟨_, rfl⟩
    rw [← hL] at hR
    have HL := Lib.hid hL
    clear hL
    by_cases hk : k < c.tables.length
    · skip
      obtain ⟨ad, x, X1, d1, X2, d2, X3, d3, rfl, hx, hmem0, hts0, q0, q1, q2, q3, q4, hc1, hc2, hc3⟩ := tab_at HC1.out hS.out.bel k hk
      have HZX := Lib.hid (HZ.out.2.2.1 x hmem0)
      have HTS := Lib.hid hts0
      have HX1 := Aside0.mk (Kd.C_below hc1.2 hS.out.bel)
      have HX2 := Aside0.mk (Kd.C_below hc2.2 hS.out.bel)
      have HX3 := Aside0.mk (Kd.C_below hc3.2 hS.out.bel)
      clear hx hmem0 hts0 hc1 hc2 hc3
      have p0 : (0 : Int) ≤ k := by omega
      have p1 : (k : Int) < c.tables.length := by omega
      go_wp2_with fail
      obtain ⟨bx, hbx⟩ : ∃ bx, bx = wr.heap.size := ⟨_, rfl⟩
      obtain ⟨wa, hwa⟩ : ∃ wa, wa = wr.alloc (Obj.cells #[.string x.name, .slice X1 x.cols.length d1, .slice X2 x.key.length d2, .int .i64 x.part, .slice X3 x.idx.length d3] 30) := ⟨_, rfl⟩
      have hA0 : Below wr.heap.size wr wa := by rw [hwa]; exact below_alloc (Below.refl _ _) _
      have hA1 : wa.heap[bx]? = some (Obj.cells #[.string x.name, .slice X1 x.cols.length d1, .slice X2 x.key.length d2, .int .i64 x.part, .slice X3 x.idx.length d3] 30) := by rw [hwa, hbx]; exact blk_alloc _ _
      rw [← hwa, ← hbx]
      have SA := Aside0.mk ((hS.out.below hA0).below (below_drew (Below.refl _ _)))
      have HA0 := Aside0.mk hA0
      have HA1 := Aside0.mk hA1
      have hbx0 : w.heap.size + 3 ≤ bx := by have := hS.out.sz; omega
      obtain ⟨V, vc, hvs⟩ := Kd.R_slice hR.out
      subst hvs
      have HRB := Lib.hid (fun i hi => Kd.R_lt hR.out i hi)
      have HRA := Aside0.mk (Kd.R_below (Kd.R_bound hR.out) (show Below wr.heap.size wr wa.drew from below_drew hA0))
      have HBX := Lib.hid hbx
      have HWR := Lib.hid (show W.heap.size ≤ wr.heap.size from by have := hS.out.sz; have := HWS.out; omega)
      have HLEN := Lib.hid (show L.length ≤ c.tables.length from by rw [HL.out, List.length_take]; omega)
      clear hwa hbx hA0 hA1 q0 q1 q2 q3 q4 hR
      have g0 : wa.drew.cell? ⟨w.heap.size + 1 + 1, 0, none⟩ = some (.slice V L.length vc) := blk_cell SA.out.b3 0
      have g1 : wa.drew.cell? ⟨bx, 0, none⟩ = some (.string x.name) := blk_cell HA1.out 0
      have g2 : wa.drew.cell? ⟨bx, 1, none⟩ = some (.slice X1 x.cols.length d1) := blk_cell HA1.out 1
      have g3 : wa.drew.cell? ⟨bx, 2, none⟩ = some (.slice X2 x.key.length d2) := blk_cell HA1.out 2
      have g4 : wa.drew.cell? ⟨bx, 3, none⟩ = some (.int .i64 x.part) := blk_cell HA1.out 3
      have g5 : wa.drew.cell? ⟨bx, 4, none⟩ = some (.slice X3 x.idx.length d3) := blk_cell HA1.out 4
      refine start_ (n := 8) (S := fun w' => w'.cell? ⟨w.heap.size + 1 + 1, 0, none⟩ = some (.slice V L.length vc) ∧ w'.cell? ⟨bx, 0, none⟩ = some (.string x.name) ∧ w'.cell? ⟨bx, 1, none⟩ = some (.slice X1 x.cols.length d1) ∧ w'.cell? ⟨bx, 2, none⟩ = some (.slice X2 x.key.length d2) ∧ w'.cell? ⟨bx, 3, none⟩ = some (.int .i64 x.part) ∧ w'.cell? ⟨bx, 4, none⟩ = some (.slice X3 x.idx.length d3)) (ds := [7]) #[false, false, false, false, false, false, false, false] (by kernel_rfl) rfl rfl ⟨g0, g1, g2, g3, g4, g5⟩ (fun hHeld => ?_)
      refine pure_ (i := 0) (N := some 15) (v := ?_) (a' := ?_) #[true, false, false, false, false, false, false, false] rfl rfl (by kernel_rfl) (fun _ _ _ h => h) (Or.inl ⟨by rfl, ?_⟩) ?_ ?_
      rotate_left
      · intro w'
        go_simp
        with_reducible rfl
      rotate_left
      · simp only [Act.put, List.setIfInBounds_toArray, List.set_cons_zero, List.set_cons_succ, i64_w, i32_w]
        rfl
      refine take_ (i := 1) (N := some 16) (v := ?_) (a' := ?_) #[true, true, false, false, false, false, false, false] rfl rfl (by kernel_rfl) (fun _ _ _ h => h) (Or.inl ⟨by rfl, ?_⟩) hHeld ?_ ?_
      rotate_left
      · rintro w' ⟨s0, s1, s2, s3, s4, s5⟩
        go_simp
        with_reducible rfl
      rotate_left
      · simp only [Act.put, List.setIfInBounds_toArray, List.set_cons_zero, List.set_cons_succ, i64_w, i32_w]
        rfl
      refine take_ (i := 2) (N := some 17) (v := ?_) (a' := ?_) #[true, true, true, false, false, false, false, false] rfl rfl (by kernel_rfl) (fun _ _ _ h => h) (Or.inl ⟨by rfl, ?_⟩) hHeld ?_ ?_
      rotate_left
      · rintro w' ⟨s0, s1, s2, s3, s4, s5⟩
        go_simp
        with_reducible rfl
      rotate_left
      · simp only [Act.put, List.setIfInBounds_toArray, List.set_cons_zero, List.set_cons_succ, i64_w, i32_w]
        rfl
      refine one_ (i := 3) (N := some 18) #[true, true, true, true, false, false, false, false] rfl rfl (by kernel_rfl) (by decide) (fun K hK => ?_)
      have HXA1 := Aside0.mk (Kd.C_below HX1.out (show Below wr.heap.size wr wa.drew from below_drew HA0.out))
      have HXA2 := Aside0.mk (Kd.C_below HX2.out (show Below wr.heap.size wr wa.drew from below_drew HA0.out))
      have HXA3 := Aside0.mk (Kd.C_below HX3.out (show Below wr.heap.size wr wa.drew from below_drew HA0.out))
      refine goes_ Try.func38 (by kernel_rfl) rfl #[.agg #[.string x.name, .slice X1 x.cols.length d1, .slice X2 x.key.length d2, .int .i64 x.part, .slice X3 x.idx.length d3]] (by rfl) rfl rfl (by simp only [List.map_toArray, List.map_cons, List.map_nil]; rfl) ?_
      with_reducible refine (tabOf_any x X1 d1 X2 d2 X3 d3 wa.drew HXA1.out HXA2.out HXA3.out HZX.out).mono ?_
      rintro e w5 ⟨v1, v2, v3, rfl, ⟨hr1, hr2, hr3⟩, hb5⟩
      refine ⟨_, rfl, ?_⟩
      obtain ⟨Y1, y1, hv1⟩ := Kd.R_slice hr1
      subst hv1
      obtain ⟨Y2, y2, hv2⟩ := Kd.R_slice hr2
      subst hv2
      obtain ⟨Y3, y3, hv3⟩ := Kd.R_slice hr3
      subst hv3
      have HM : Aside0 (kTab.M w5 wa.drew.heap.size (fun _ => True) x [.string x.name, .slice Y1 x.cols.length y1, .slice Y2 x.key.length y2, .int .i64 x.part, .slice Y3 x.idx.length y3]) := ⟨kTab_M.2 ⟨_, _, _, rfl, hr1, hr2, hr3⟩⟩
      have S5 := Aside0.mk (SA.out.below hb5)
      have HR5 := Aside0.mk (Kd.R_below HRA.out hb5)
      have HS5 := Lib.hid hb5.size
      have HA5 := Aside0.mk (blk_below (w := wa.drew) HA1.out hb5)
      clear hr1 hr2 hr3 hb5
      refine hK.out _ _ ⟨blk_cell S5.out.b3 0, blk_cell HA5.out 0, blk_cell HA5.out 1, blk_cell HA5.out 2, blk_cell HA5.out 3, blk_cell HA5.out 4⟩ (fun hHeld => ?_)
      clear hK K
      refine norm_ (a' := ?_) ?_ ?_
      rotate_left
      · show Act.put _ (some 18) _ = _
        simp only [Act.put, List.setIfInBounds_toArray, List.set_cons_zero, List.set_cons_succ, i64_w, i32_w]
        rfl
      refine one_ (i := 4) (N := some 19) #[true, true, true, true, true, false, false, false] rfl rfl (by kernel_rfl) (by decide) (fun K hK => ?_)
      refine value_ (w1 := ?_) (v := ?_) (by rfl) rfl ?_ ?_
      rotate_left 2
      · go_simp
        constructor
        · rfl
        · rfl
      have S6 := Aside0.mk (S5.out.alloc (Obj.cells #[.string x.name, .slice Y1 x.cols.length y1, .slice Y2 x.key.length y2, .int .i64 x.part, .slice Y3 x.idx.length y3] 30))
      have HA6 := Aside0.mk (blk_alloc' (o' := (Obj.cells #[.string x.name, .slice Y1 x.cols.length y1, .slice Y2 x.key.length y2, .int .i64 x.part, .slice Y3 x.idx.length y3] 30)) HA5.out)
      refine hK.out _ _ ⟨blk_cell S6.out.b3 0, blk_cell HA6.out 0, blk_cell HA6.out 1, blk_cell HA6.out 2, blk_cell HA6.out 3, blk_cell HA6.out 4⟩ (fun hHeld => ?_)
      clear hK K
      refine norm_ (a' := ?_) ?_ ?_
      rotate_left
      · show Act.put _ (some 19) _ = _
        simp only [Act.put, List.setIfInBounds_toArray, List.set_cons_zero, List.set_cons_succ, i64_w, i32_w]
        rfl
      refine one_ (i := 5) (N := some 20) #[true, true, true, true, true, true, false, false] rfl rfl (by kernel_rfl) (by decide) (fun K hK => ?_)
      refine Kd.R_append_step kTab (w0 := w5) W.heap.size (by rfl) (.tmp 16) (.tmp 19) 22 30 _ 96 rfl Try.underlying22 info30 rfl (by decide) (by omega) _ L x [.string x.name, .slice Y1 x.cols.length y1, .slice Y2 x.key.length y2, .int .i64 x.part, .slice Y3 x.idx.length y3] (fun k => W.heap.size ≤ k) (fun k => wa.drew.heap.size ≤ k) (by rfl) (by rfl) ?aP ?aK ?aF ?aO ?aB ?aS ?aL ?_
      case aP => exact kTab.M_lower (by have := HWR.out; have := HA0.out.size; exact Nat.le_trans HWR.out HA0.out.size) (kTab.M_mono (fun k hk => hk.2.1) (kTab.M_bound HM.out))
      case aK => exact fun i hi => ⟨Nat.le_trans (Nat.le_trans HWR.out HA0.out.size) hi, fun he => by have h1 := HRB.out i he.symm; have h2 := HA0.out.size; have h3 : wa.drew.heap.size = wa.heap.size := rfl; omega⟩
      case aF => exact fun i hi => by have := S5.out.sz; have := HWS.out; omega
      case aO => exact Kd.R_mono HR5.out (fun i hi => hi.1)
      case aB => exact Below.refl _ _
      case aS => have := S5.out.sz; have := HWS.out; omega
      case aL => have := HLEN.out; omega
      intro v7 w7 ho7 hb7 hg7 hat7
      obtain ⟨V7, vc7, hv7⟩ := Kd.R_slice ho7
      rw [List.length_append, List.length_singleton] at hv7
      have hO7 := Aside0.mk ho7
      have hm7 : Mod w5 w7 (fun i => W.heap.size ≤ i ∧ some i = (Value.slice V L.length vc).ownBlock) := ⟨hb7.os, hb7.tape, hb7.output, hg7.size, fun i hi hn => by rcases Nat.lt_or_ge i W.heap.size with h | h; exact hb7.block i h; exact hg7.block i hi (fun he => hn ⟨h, he⟩)⟩
      have S7 := Aside0.mk (S5.out.mod hm7 (fun i hi => by have := HWS.out; have := hi.1; omega))
      have HA7 := Aside0.mk (blk_mod HA5.out hm7 (fun h => by have := HRB.out bx h.2.symm; have := HBX.out; omega))
      subst hv7
      clear ho7 hb7 hg7 hat7 hm7
      refine hK.out _ _ ⟨blk_cell S7.out.b3 0, blk_cell HA7.out 0, blk_cell HA7.out 1, blk_cell HA7.out 2, blk_cell HA7.out 3, blk_cell HA7.out 4⟩ (fun hHeld => ?_)
      clear hK K
      refine norm_ (a' := ?_) ?_ ?_
      rotate_left
      · show Act.put _ (some 20) _ = _
        simp only [Act.put, List.setIfInBounds_toArray, List.set_cons_zero, List.set_cons_succ, i64_w, i32_w]
        rfl
      refine pure_ (i := 6) (N := some 21) (v := ?_) (a' := ?_) #[true, true, true, true, true, true, true, false] rfl rfl (by kernel_rfl) (fun _ _ _ h => h) (Or.inl ⟨by rfl, ?_⟩) ?_ ?_
      rotate_left
      · intro w'
        go_simp
        with_reducible rfl
      rotate_left
      · simp only [Act.put, List.setIfInBounds_toArray, List.set_cons_zero, List.set_cons_succ, i64_w, i32_w]
        rfl
      refine last_ (i := 7) (N := none) #[true, true, true, true, true, true, true, true] rfl rfl (by kernel_rfl) (by decide) (fun K hK => ?_)
      have z1 := blk_cell S7.out.b3 0
      have z2 := blk_frozen S7.out.b3 0
      refine skip_ (w1 := ?_) (by rfl) rfl ?_ ?_
      rotate_left
      · go_simp
        rfl
      refine hK.out _ _ ?_
      clear hK K
      refine done_ (by kernel_rfl) ?_
      clear z1 z2 hHeld g0 g1 g2 g3 g4 g5
      go_wp2_with fail
      go_roundg (c.tables.length - (k + 1))
      case measure => have := HGN.out; omega
      case rel => exact ⟨k + 1, .slice V7 (L.length + 1) vc7, by go_num, ⟨by have := HGN.out; omega⟩, ⟨S7.out.set3 0 _ rfl⟩, ⟨by
        have h1 := HTS.out
        rw [h1, ← HL.out]
        exact R_set hO7.out _ _ _ (by have := HWS.out; omega)⟩⟩
    · skip
      obtain rfl : L = c.tables := by rw [HL.out]; exact List.take_of_length_le (by omega)
      clear HL
      have f1 : wr.cell? ⟨w.heap.size, 1, none⟩ = some (.slice A2 c.procs.length c2) := blk_cell hS.out.b1 1
      go_wp2_with fail
      clear f1
      obtain ⟨vT, hvT⟩ : ∃ x, x = v := ⟨v, rfl⟩
      rw [← hvT] at hS hR
      have hTO := hR
      clear hvT hR
      go_loopg [26] c.procs.length (fun gn i wr => ∃ (k : Nat) (v : Value), i = .int .i64 k ∧ Aside0 (k + gn = c.procs.length) ∧ Aside0 (St3 w wr (catBox c.tables.length c.procs.length A1 c1 A2 c2) zCat (.cells #[vT, v] 25 (0, 0))) ∧ Aside0 (kPrc.R 34 wr W.heap.size (fun k => W.heap.size ≤ k) v (c.procs.take k)) ∧ Aside0 (kTab.R 30 wr W.heap.size (fun k => W.heap.size ≤ k) vT c.tables))
      case atStart => exact ⟨0, .slice none 0 0, rfl, ⟨by omega⟩, hS, ⟨Kd.R_nil _ _ _ _ _⟩, hTO⟩
      case round =>
        obtain ⟨k, v, rfl, ⟨hgn⟩, hS, hR, hT⟩ := hrel
        have HGN := Lib.hid hgn
        clear hgn
        obtain ⟨L, hL⟩ : ∃ L, L = c.procs.take k := ⟨_, rfl⟩
        rw [← hL] at hR
        have HL := Lib.hid hL
        clear hL
        by_cases hk : k < c.procs.length
        · skip
          obtain ⟨ad, x, X1, d1, X2, d2, rfl, hx, hmem0, hts0, q0, q1, q2, q3, q4, hc1, hc2⟩ := prc_at HC2.out hS.out.bel k hk
          have HZX := Lib.hid (HZ.out.2.2.2 x hmem0)
          have HTS := Lib.hid hts0
          have HX1 := Aside0.mk (Kd.C_below hc1.2 hS.out.bel)
          have HX2 := Aside0.mk (Kd.C_below hc2.2 hS.out.bel)
          clear hx hmem0 hts0 hc1 hc2
          have p0 : (0 : Int) ≤ k := by omega
          have p1 : (k : Int) < c.procs.length := by omega
          go_wp2_with fail
          obtain ⟨bx, hbx⟩ : ∃ bx, bx = wr.heap.size := ⟨_, rfl⟩
          obtain ⟨wa, hwa⟩ : ∃ wa, wa = wr.alloc (Obj.cells #[.string x.name, .slice X1 x.params.length d1, .slice X2 x.body.length d2, .int .i64 x.rows, .int .i64 x.bytes] 34) := ⟨_, rfl⟩
          have hA0 : Below wr.heap.size wr wa := by rw [hwa]; exact below_alloc (Below.refl _ _) _
          have hA1 : wa.heap[bx]? = some (Obj.cells #[.string x.name, .slice X1 x.params.length d1, .slice X2 x.body.length d2, .int .i64 x.rows, .int .i64 x.bytes] 34) := by rw [hwa, hbx]; exact blk_alloc _ _
          rw [← hwa, ← hbx]
          have SA := Aside0.mk ((hS.out.below hA0).below (below_drew (Below.refl _ _)))
          have HA0 := Aside0.mk hA0
          have HA1 := Aside0.mk hA1
          have hbx0 : w.heap.size + 3 ≤ bx := by have := hS.out.sz; omega
          obtain ⟨V, vc, hvs⟩ := Kd.R_slice hR.out
          subst hvs
          have HRB := Lib.hid (fun i hi => Kd.R_lt hR.out i hi)
          have HRA := Aside0.mk (Kd.R_below (Kd.R_bound hR.out) (show Below wr.heap.size wr wa.drew from below_drew hA0))
          have HTA := Aside0.mk (Kd.R_below hT.out (show Below wr.heap.size wr wa.drew from below_drew hA0))
          have HBX := Lib.hid hbx
          have HWR := Lib.hid (show W.heap.size ≤ wr.heap.size from by have := hS.out.sz; have := HWS.out; omega)
          have HLEN := Lib.hid (show L.length ≤ c.procs.length from by rw [HL.out, List.length_take]; omega)
          clear hwa hbx hA0 hA1 q0 q1 q2 q3 q4 hR hT
          have g0 : wa.drew.cell? ⟨w.heap.size + 1 + 1, 1, none⟩ = some (.slice V L.length vc) := blk_cell SA.out.b3 1
          have g1 : wa.drew.cell? ⟨bx, 0, none⟩ = some (.string x.name) := blk_cell HA1.out 0
          have g2 : wa.drew.cell? ⟨bx, 1, none⟩ = some (.slice X1 x.params.length d1) := blk_cell HA1.out 1
          have g3 : wa.drew.cell? ⟨bx, 2, none⟩ = some (.slice X2 x.body.length d2) := blk_cell HA1.out 2
          have g4 : wa.drew.cell? ⟨bx, 3, none⟩ = some (.int .i64 x.rows) := blk_cell HA1.out 3
          have g5 : wa.drew.cell? ⟨bx, 4, none⟩ = some (.int .i64 x.bytes) := blk_cell HA1.out 4
          refine start_ (n := 8) (S := fun w' => w'.cell? ⟨w.heap.size + 1 + 1, 1, none⟩ = some (.slice V L.length vc) ∧ w'.cell? ⟨bx, 0, none⟩ = some (.string x.name) ∧ w'.cell? ⟨bx, 1, none⟩ = some (.slice X1 x.params.length d1) ∧ w'.cell? ⟨bx, 2, none⟩ = some (.slice X2 x.body.length d2) ∧ w'.cell? ⟨bx, 3, none⟩ = some (.int .i64 x.rows) ∧ w'.cell? ⟨bx, 4, none⟩ = some (.int .i64 x.bytes)) (ds := [7]) #[false, false, false, false, false, false, false, false] (by kernel_rfl) rfl rfl ⟨g0, g1, g2, g3, g4, g5⟩ (fun hHeld => ?_)
          refine pure_ (i := 0) (N := some 30) (v := ?_) (a' := ?_) #[true, false, false, false, false, false, false, false] rfl rfl (by kernel_rfl) (fun _ _ _ h => h) (Or.inl ⟨by rfl, ?_⟩) ?_ ?_
          rotate_left
          · intro w'
            go_simp
            with_reducible rfl
          rotate_left
          · simp only [Act.put, List.setIfInBounds_toArray, List.set_cons_zero, List.set_cons_succ, i64_w, i32_w]
            rfl
          refine take_ (i := 1) (N := some 31) (v := ?_) (a' := ?_) #[true, true, false, false, false, false, false, false] rfl rfl (by kernel_rfl) (fun _ _ _ h => h) (Or.inl ⟨by rfl, ?_⟩) hHeld ?_ ?_
          rotate_left
          · rintro w' ⟨s0, s1, s2, s3, s4, s5⟩
            go_simp
            with_reducible rfl
          rotate_left
          · simp only [Act.put, List.setIfInBounds_toArray, List.set_cons_zero, List.set_cons_succ, i64_w, i32_w]
            rfl
          refine take_ (i := 2) (N := some 32) (v := ?_) (a' := ?_) #[true, true, true, false, false, false, false, false] rfl rfl (by kernel_rfl) (fun _ _ _ h => h) (Or.inl ⟨by rfl, ?_⟩) hHeld ?_ ?_
          rotate_left
          · rintro w' ⟨s0, s1, s2, s3, s4, s5⟩
            go_simp
            with_reducible rfl
          rotate_left
          · simp only [Act.put, List.setIfInBounds_toArray, List.set_cons_zero, List.set_cons_succ, i64_w, i32_w]
            rfl
          refine one_ (i := 3) (N := some 33) #[true, true, true, true, false, false, false, false] rfl rfl (by kernel_rfl) (by decide) (fun K hK => ?_)
          have HXA1 := Aside0.mk (Kd.C_below HX1.out (show Below wr.heap.size wr wa.drew from below_drew HA0.out))
          have HXA2 := Aside0.mk (Kd.C_below HX2.out (show Below wr.heap.size wr wa.drew from below_drew HA0.out))
          refine goes_ Try.func40 (by kernel_rfl) rfl #[.agg #[.string x.name, .slice X1 x.params.length d1, .slice X2 x.body.length d2, .int .i64 x.rows, .int .i64 x.bytes]] (by rfl) rfl rfl (by simp only [List.map_toArray, List.map_cons, List.map_nil]; rfl) ?_
          with_reducible refine (prcOf_any x X1 d1 X2 d2 wa.drew HXA1.out HXA2.out HZX.out).mono ?_
          rintro e w5 ⟨v1, v2, rfl, ⟨hr1, hr2⟩, hb5⟩
          refine ⟨_, rfl, ?_⟩
          obtain ⟨Y1, y1, hv1⟩ := Kd.R_slice hr1
          subst hv1
          obtain ⟨Y2, y2, hv2⟩ := Kd.R_slice hr2
          subst hv2
          have HM : Aside0 (kPrc.M w5 wa.drew.heap.size (fun _ => True) x [.string x.name, .slice Y1 x.params.length y1, .slice Y2 x.body.length y2, .int .i64 x.rows, .int .i64 x.bytes]) := ⟨kPrc_M.2 ⟨_, _, rfl, hr1, hr2⟩⟩
          have S5 := Aside0.mk (SA.out.below hb5)
          have HR5 := Aside0.mk (Kd.R_below HRA.out hb5)
          have HT5 := Aside0.mk (Kd.R_below HTA.out hb5)
          have HS5 := Lib.hid hb5.size
          have HA5 := Aside0.mk (blk_below (w := wa.drew) HA1.out hb5)
          clear hr1 hr2 hb5
          refine hK.out _ _ ⟨blk_cell S5.out.b3 1, blk_cell HA5.out 0, blk_cell HA5.out 1, blk_cell HA5.out 2, blk_cell HA5.out 3, blk_cell HA5.out 4⟩ (fun hHeld => ?_)
          clear hK K
          refine norm_ (a' := ?_) ?_ ?_
          rotate_left
          · show Act.put _ (some 33) _ = _
            simp only [Act.put, List.setIfInBounds_toArray, List.set_cons_zero, List.set_cons_succ, i64_w, i32_w]
            rfl
          refine one_ (i := 4) (N := some 34) #[true, true, true, true, true, false, false, false] rfl rfl (by kernel_rfl) (by decide) (fun K hK => ?_)
          refine value_ (w1 := ?_) (v := ?_) (by rfl) rfl ?_ ?_
          rotate_left 2
          · go_simp
            constructor
            · rfl
            · rfl
          have S6 := Aside0.mk (S5.out.alloc (Obj.cells #[.string x.name, .slice Y1 x.params.length y1, .slice Y2 x.body.length y2, .int .i64 x.rows, .int .i64 x.bytes] 34))
          have HA6 := Aside0.mk (blk_alloc' (o' := (Obj.cells #[.string x.name, .slice Y1 x.params.length y1, .slice Y2 x.body.length y2, .int .i64 x.rows, .int .i64 x.bytes] 34)) HA5.out)
          refine hK.out _ _ ⟨blk_cell S6.out.b3 1, blk_cell HA6.out 0, blk_cell HA6.out 1, blk_cell HA6.out 2, blk_cell HA6.out 3, blk_cell HA6.out 4⟩ (fun hHeld => ?_)
          clear hK K
          refine norm_ (a' := ?_) ?_ ?_
          rotate_left
          · show Act.put _ (some 34) _ = _
            simp only [Act.put, List.setIfInBounds_toArray, List.set_cons_zero, List.set_cons_succ, i64_w, i32_w]
            rfl
          refine one_ (i := 5) (N := some 35) #[true, true, true, true, true, true, false, false] rfl rfl (by kernel_rfl) (by decide) (fun K hK => ?_)
          refine Kd.R_append_step kPrc (w0 := w5) W.heap.size (by rfl) (.tmp 31) (.tmp 34) 23 34 _ 80 rfl Try.underlying23 info34 rfl (by decide) (by omega) _ L x [.string x.name, .slice Y1 x.params.length y1, .slice Y2 x.body.length y2, .int .i64 x.rows, .int .i64 x.bytes] (fun k => W.heap.size ≤ k) (fun k => wa.drew.heap.size ≤ k) (by rfl) (by rfl) ?aP ?aK ?aF ?aO ?aB ?aS ?aL ?_
          case aP => exact kPrc.M_lower (by have := HWR.out; have := HA0.out.size; exact Nat.le_trans HWR.out HA0.out.size) (kPrc.M_mono (fun k hk => hk.2.1) (kPrc.M_bound HM.out))
          case aK => exact fun i hi => ⟨Nat.le_trans (Nat.le_trans HWR.out HA0.out.size) hi, fun he => by have h1 := HRB.out i he.symm; have h2 := HA0.out.size; have h3 : wa.drew.heap.size = wa.heap.size := rfl; omega⟩
          case aF => exact fun i hi => by have := S5.out.sz; have := HWS.out; omega
          case aO => exact Kd.R_mono HR5.out (fun i hi => hi.1)
          case aB => exact Below.refl _ _
          case aS => have := S5.out.sz; have := HWS.out; omega
          case aL => have := HLEN.out; omega
          intro v7 w7 ho7 hb7 hg7 hat7
          obtain ⟨V7, vc7, hv7⟩ := Kd.R_slice ho7
          rw [List.length_append, List.length_singleton] at hv7
          have hO7 := Aside0.mk ho7
          have hT7 := Aside0.mk (Kd.R_over HT5.out HR5.out (by intro q hq; have hq2 : q = 30 ∨ q = 62 ∨ q = 3 ∨ q = 64 ∨ q = 3 := (by simpa [kTab, kCol, kIdx, Kd.iso, Kd.pair, Kd.slice, Kd.string, Kd.int, Kd.bool, Kd.scalar] using hq); omega) hg7)
          have hm7 : Mod w5 w7 (fun i => W.heap.size ≤ i ∧ some i = (Value.slice V L.length vc).ownBlock) := ⟨hb7.os, hb7.tape, hb7.output, hg7.size, fun i hi hn => by rcases Nat.lt_or_ge i W.heap.size with h | h; exact hb7.block i h; exact hg7.block i hi (fun he => hn ⟨h, he⟩)⟩
          have S7 := Aside0.mk (S5.out.mod hm7 (fun i hi => by have := HWS.out; have := hi.1; omega))
          have HA7 := Aside0.mk (blk_mod HA5.out hm7 (fun h => by have := HRB.out bx h.2.symm; have := HBX.out; omega))
          subst hv7
          clear ho7 hb7 hg7 hat7 hm7
          refine hK.out _ _ ⟨blk_cell S7.out.b3 1, blk_cell HA7.out 0, blk_cell HA7.out 1, blk_cell HA7.out 2, blk_cell HA7.out 3, blk_cell HA7.out 4⟩ (fun hHeld => ?_)
          clear hK K
          refine norm_ (a' := ?_) ?_ ?_
          rotate_left
          · show Act.put _ (some 35) _ = _
            simp only [Act.put, List.setIfInBounds_toArray, List.set_cons_zero, List.set_cons_succ, i64_w, i32_w]
            rfl
          refine pure_ (i := 6) (N := some 36) (v := ?_) (a' := ?_) #[true, true, true, true, true, true, true, false] rfl rfl (by kernel_rfl) (fun _ _ _ h => h) (Or.inl ⟨by rfl, ?_⟩) ?_ ?_
          rotate_left
          · intro w'
            go_simp
            with_reducible rfl
          rotate_left
          · simp only [Act.put, List.setIfInBounds_toArray, List.set_cons_zero, List.set_cons_succ, i64_w, i32_w]
            rfl
          refine last_ (i := 7) (N := none) #[true, true, true, true, true, true, true, true] rfl rfl (by kernel_rfl) (by decide) (fun K hK => ?_)
          have z1 := blk_cell S7.out.b3 1
          have z2 := blk_frozen S7.out.b3 1
          refine skip_ (w1 := ?_) (by rfl) rfl ?_ ?_
          rotate_left
          · go_simp
            rfl
          refine hK.out _ _ ?_
          clear hK K
          refine done_ (by kernel_rfl) ?_
          clear z1 z2 hHeld g0 g1 g2 g3 g4 g5
          go_wp2_with fail
          go_roundg (c.procs.length - (k + 1))
          case measure => have := HGN.out; omega
          case rel => exact ⟨k + 1, .slice V7 (L.length + 1) vc7, by go_num, ⟨by have := HGN.out; omega⟩, ⟨S7.out.set3 1 _ rfl⟩, ⟨by
            have h1 := HTS.out
            rw [h1, ← HL.out]
            exact R_set hO7.out _ _ _ (by have := HWS.out; omega)⟩, ⟨R_set hT7.out _ _ _ (by have := HWS.out; omega)⟩⟩
        · skip
          obtain rfl : L = c.procs := by rw [HL.out]; exact List.take_of_length_le (by omega)
          clear HL
          obtain ⟨V, vc, hvs⟩ := Kd.R_slice hR.out
          obtain ⟨U, uc, hus⟩ := Kd.R_slice hT.out
          subst hvs hus
          have g0 : wr.cell? ⟨w.heap.size + 1 + 1, 0, none⟩ = some (.slice U c.tables.length uc) := blk_cell hS.out.b3 0
          have g1 : wr.cell? ⟨w.heap.size + 1 + 1, 1, none⟩ = some (.slice V c.procs.length vc) := blk_cell hS.out.b3 1
          have g2 : wr.cell? ⟨w.heap.size + 1, 0, none⟩ = some (.slice none 0 0) := blk_cell hS.out.b2 0
          have g3 : wr.cell? ⟨w.heap.size + 1, 1, none⟩ = some (.slice none 0 0) := blk_cell hS.out.b2 1
          have g4 : wr.frozen? ⟨w.heap.size + 1, 0, none⟩ = false := blk_frozen hS.out.b2 _
          have g5 : wr.frozen? ⟨w.heap.size + 1, 1, none⟩ = false := blk_frozen hS.out.b2 _
          go_wp2_with fail
          have hE := ((hS.out.set2 0 (.slice U c.tables.length uc) rfl).set2 1 (.slice V c.procs.length vc) rfl)
          have hm := (mod_setCell wr (w.heap.size + 1) 0 (.slice U c.tables.length uc)).trans (mod_setCell _ _ 1 (.slice V c.procs.length vc))
          refine bodyPost_ret (results_cell_row rfl _ _ (w.heap.size + 1) 25 #[.slice U c.tables.length uc, .slice V c.procs.length vc] (0, 0) _ rfl hE.b2 Try.underlying25 rfl (by kernel_rfl)) rfl ?_
          have hws := HWS.out
          exact ⟨_, _, rfl, ⟨Kd.R_mono (Kd.R_lower (Kd.R_step hT.out (fun i hi hl => hm.block i hl (by omega))) (by omega)) (fun _ _ => trivial), Kd.R_mono (Kd.R_lower (Kd.R_step hR.out (fun i hi hl => hm.block i hl (by omega))) (by omega)) (fun _ _ => trivial)⟩, hE.bel⟩
end Go.Proofs.Ytcmgdieeclninaa
