/- Layer 8: the walk of mayTable. -/
import Derived.Test.YtcmgdieeclninaaD7
set_option linter.unusedVariables false
set_option linter.unusedSimpArgs false
namespace Go.Proofs.Ytcmgdieeclninaa
open Go.RowKit Go.Proofs.YtcmgdieeclninaaW.PrintWords
theorem blk_mod {w w' : World} {S : Nat → Prop} {g : Nat} {o : Obj} (h : w.heap[g]? = some o) (k : Mod w w' S) (hg : ¬ S g) : w'.heap[g]? = some o := by rw [k.block g (blk_lt h) hg, h]
theorem blk_below {w w' : World} {g : Nat} {o : Obj} (h : w.heap[g]? = some o) (k : Below w.heap.size w w') : w'.heap[g]? = some o := by rw [k.block g (blk_lt h), h]
theorem blk_alloc (w : World) (o : Obj) : (w.alloc o).heap[w.heap.size]? = some o := by show (w.heap.push o)[w.heap.size]? = _; simp
theorem blk_alloc' {w : World} {g : Nat} {o o' : Obj} (h : w.heap[g]? = some o) : (w.alloc o').heap[g]? = some o := by
  rw [Below.heap_alloc _ _ _ (blk_lt h)]; exact h
theorem addr_add2 (a : Addr) (i j : Nat) : (a.add i).add j = a.add (i + j) := by
  unfold Addr.add
  by_cases h1 : i = 0
  · subst h1; simp
  · by_cases h2 : j = 0
    · subst h2; simp
    · have : i + j ≠ 0 := by omega
      simp [h1, h2, this, Nat.add_assoc]
theorem cell_off {w : World} {a : Addr} {i j : Nat} {v : Value} (h : w.cell? (a.add (i + (j + 1))) = some v) : w.cell? { block := (a.add i).block, off := (a.add i).off + (j + 1) } = some v := by
  rw [← addr_add2] at h; exact h
/-- A table's box. -/
def tabBox (t : Tab) (A1 : Option Addr) (c1 : Nat) (A2 : Option Addr) (c2 : Nat) (A3 : Option Addr) (c3 : Nat) : Obj :=
  .cells #[.string t.name, .slice A1 t.cols.length c1, .slice A2 t.key.length c2, .int .i64 t.part, .slice A3 t.idx.length c3] 30 (0, 0)
set_option maxRecDepth 100000 in
set_option maxHeartbeats 4000000 in
theorem mayTab_any (t : Tab) (A1 : Option Addr) (c1 : Nat) (A2 : Option Addr) (c2 : Nat) (A3 : Option Addr) (c3 : Nat) (w : World)
    (hC1 : kCol.C w A1 t.cols.length t.cols) (hC2 : (Kd.int .i64).C w A2 t.key.length t.key) (hC3 : kIdx.C w A3 t.idx.length t.idx) :
    Calls Try.prog 36 #[.agg #[.string t.name, .slice A1 t.cols.length c1, .slice A2 t.key.length c2, .int .i64 t.part, .slice A3 t.idx.length c3]] w fun e w' => e = .returned (.bool (decide (MayTab t))) ∧ Below w.heap.size w w' := by
  have hk := hC2.2.1
  have hn1 := hC1.2.1
  have hn3 := hC3.2.1
  have HC1 := Aside0.mk hC1
  have HC2 := Aside0.mk hC2
  have HC3 := Aside0.mk hC3
  clear hC1 hC2 hC3
  go_enter Try.func36, Try.ntmps36
  go_wp2_with fail
  refine (named_any t.name _).mono ?_
  rintro e w1 ⟨rfl, hb1⟩
  have hg1 : w1.heap[w.heap.size]? = some (tabBox t A1 c1 A2 c2 A3 c3) := blk_below (blk_alloc w _) hb1
  have hB1 : Below w.heap.size w w1 := below_then (below_alloc (Below.refl _ _) _) (by simp) hb1
  obtain ⟨g, hg⟩ : ∃ g, g = w.heap.size := ⟨_, rfl⟩
  rw [← hg] at hg1
  rw [← hg]
  have f1 : w1.cell? ⟨g, 1, none⟩ = some (.slice A1 t.cols.length c1) := blk_cell hg1 1
  have f4 : w1.cell? ⟨g, 4, none⟩ = some (.slice A3 t.idx.length c3) := blk_cell hg1 4
  have HB1 := Aside0.mk hB1
  have HG := Lib.hid hg
  have HG1 := Lib.hid hg1
  clear hB1 hb1 hg hg1
  by_cases hnm : NameOk t.name
  · rw [decide_eq_true hnm]
    by_cases hl0 : t.cols.length = 0
    · have he : ((t.cols.length : Int) == 0) = true := by rw [beq_iff_eq]; omega
      have HL0 := Lib.hid hl0
      clear hl0
      go_wp2_with fail
      go_ret
      exact ⟨ret_bool (decide_eq_false (fun h => by have := h.2.1; have := HL0.out; omega)).symm, HB1.out⟩
    · have he : ((t.cols.length : Int) == 0) = false := by rw [beq_eq_false_iff_ne]; omega
      by_cases hl16 : 16 < t.cols.length
      · go_wp2_with fail
        go_ret
        exact ⟨ret_bool (decide_eq_false (fun h => by have := h.2.2.1; omega)).symm, HB1.out⟩
      · by_cases hi4 : 4 < t.idx.length
        · go_wp2_with fail
          go_ret
          exact ⟨ret_bool (decide_eq_false (fun h => by have := h.2.2.2.1; omega)).symm, HB1.out⟩
        · go_wp2_with fail
          refine (met_any _).mono ?_
          rintro e w2 ⟨gc, mc, rfl, hs2, hgc, hmc, hb2⟩
          go_wp2_with fail
          refine (met_any _).mono ?_
          rintro e w3 ⟨gi, mi, rfl, hs3, hgi, hmi, hb3⟩
          have hG : w3.heap[g]? = some (tabBox t A1 c1 A2 c2 A3 c3) := blk_below (blk_below HG1.out hb2) hb3
          have hMC : MetSt w3 gc mc [] := hs2.keep (S := fun _ => False) (Mod.of_below hb3) (fun h => h) (fun h => h)
          have hB3 : Below w.heap.size w w3 := below_then (below_then HB1.out HB1.out.size hb2) (by have := HB1.out.size; have := hb2.size; omega) hb3
          have hs1 : g < w1.heap.size := blk_lt HG1.out
          have hgc2 : gc < w2.heap.size := blk_lt hs2.var
          have hmc2 : mc < w2.heap.size := hs2.map.lt
          have hmd : w.heap.size ≤ mc := by have := HB1.out.size; omega
          have hmid : w.heap.size ≤ mi := by have := HB1.out.size; have := hb2.size; omega
          have HGM : Aside0 (w3.heap[g]? = some (tabBox t A1 c1 A2 c2 A3 c3) ∧ MetSt w3 gc mc [] ∧ MetSt w3 gi mi [] ∧ Below w.heap.size w w3) := ⟨hG, hMC, hs3, hB3⟩
          have hne1 : g ≠ mc := by omega
          have hne2 : gi ≠ mc := by omega
          have hne3 : mi ≠ mc := by omega
          have hne4 : g ≠ mi := by omega
          have HNE1 := Lib.hid hne1
          have HNE2 := Lib.hid hne2
          have HNE3 := Lib.hid hne3
          have HNE4 := Lib.hid hne4
          clear hG hMC hs3 hB3 hs2 hb2 hb3 f1 f4 hgc hmc hgi hmi hs1 hgc2 hmc2 hne1 hne2 hne3 hne4
          have f1 : w3.cell? ⟨g, 1, none⟩ = some (.slice A1 t.cols.length c1) := blk_cell HGM.out.1 1
          go_wp2_with fail
          go_loopg [38] t.cols.length (fun gn i wr => ∃ (k : Nat) (l' : List ByteArray), i = .int .i64 k ∧ Aside0 (k + gn = t.cols.length ∧ (∀ x ∈ (t.cols.map (·.name)).take k, NameOk x) ∧ ((t.cols.map (·.name)).take k).Nodup ∧ (∀ c ∈ t.cols.take k, TypeOk c.type) ∧ ∀ x, x ∈ l' ↔ x ∈ (t.cols.map (·.name)).take k) ∧ Aside0 (wr.heap[g]? = some (tabBox t A1 c1 A2 c2 A3 c3) ∧ MetSt wr gc mc l' ∧ MetSt wr gi mi [] ∧ Below w.heap.size w wr))
          case atStart => exact ⟨0, [], rfl, ⟨by omega, by simp, by simp, by simp, by simp⟩, HGM⟩
          case round =>
            obtain ⟨k, l', rfl, ⟨hg', hall, hnd, hty, hl'⟩, hM⟩ := hrel
            have HALL := Lib.hid hall
            have HND := Lib.hid hnd
            have HTY := Lib.hid hty
            have HL := Lib.hid hl'
            have HGN := Lib.hid hg'
            clear hall hnd hty hl' hg'
            by_cases hk : k < t.cols.length
            · obtain ⟨ad, cs, rfl, hlen, hcs, hcell⟩ := C_at HC1.out k hk default
              have hkm : k < (t.cols.map (·.name)).length := by simpa using hk
              have hts := Lib.hid (take_snoc (t.cols.map (·.name)) k ByteArray.empty hkm)
              have hts2 := Lib.hid (take_snoc t.cols k default hk)
              have hmem := Lib.hid (getD_mem t.cols k default hk)
              have hnm0 : (t.cols.map (·.name)).getD k ByteArray.empty = (t.cols.getD k default).name := by simp [List.getD, List.getElem?_eq_getElem hk]
              have hmem2 := Lib.hid (getD_mem (t.cols.map (·.name)) k ByteArray.empty hkm)
              rw [hnm0] at hts hmem2
              obtain ⟨x, hx⟩ : ∃ x, x = t.cols.getD k default := ⟨_, rfl⟩
              rw [← hx] at hcs hts hts2 hmem hmem2
              rw [kCol_K] at hcs
              subst hcs
              have q0 : wr.cell? (ad.add (k * 3)) = some (.string x.name) := pw_cell_below hM.out.2.2.2 (hcell 0 _ rfl)
              have q1 : wr.cell? (ad.add (k * 3 + 1)) = some (.int .i64 x.type) := pw_cell_below hM.out.2.2.2 (hcell 1 _ rfl)
              replace q1 := cell_off (j := 0) q1
              have q2 : wr.cell? (ad.add (k * 3 + 2)) = some (.bool x.notNull) := pw_cell_below hM.out.2.2.2 (hcell 2 _ rfl)
              replace q2 := cell_off (j := 1) q2
              clear hcell hnm0 hx hkm hlen
              have p0 : (0 : Int) ≤ k := by omega
              have p1 : (k : Int) < t.cols.length := by omega
              go_wp2_with fail
              obtain ⟨bx, hbx⟩ : ∃ bx, bx = wr.heap.size := ⟨_, rfl⟩
              obtain ⟨wa, hwa⟩ : ∃ wa, wa = wr.alloc (Obj.cells #[Value.string x.name, Value.int IntKind.i64 x.type, Value.bool x.notNull] 62) := ⟨_, rfl⟩
              have hA0 : Below wr.heap.size wr wa := by rw [hwa]; exact below_alloc (Below.refl _ _) _
              have hA1 : wa.heap[bx]? = some (Obj.cells #[Value.string x.name, Value.int IntKind.i64 x.type, Value.bool x.notNull] 62) := by rw [hwa, hbx]; exact blk_alloc _ _
              rw [← hwa, ← hbx]
              have hMa : MetSt wa gc mc l' := hM.out.2.1.keep (S := fun _ => False) (Mod.of_below hA0) (fun h => h) (fun h => h)
              have hMi : MetSt wa gi mi [] := hM.out.2.2.1.keep (S := fun _ => False) (Mod.of_below hA0) (fun h => h) (fun h => h)
              have hGa : wa.heap[g]? = some (tabBox t (some ad) c1 A2 c2 A3 c3) := blk_below hM.out.1 hA0
              have hBa : Below w.heap.size w wa := below_then hM.out.2.2.2 hM.out.2.2.2.size hA0
              have hbm : bx ≠ mc := by have := hM.out.2.1.map.lt; omega
              refine (metnext_any x.name gc mc l' wa hMa).mono ?_
              rintro e w4 ⟨rfl, hmod, l2, hs2, hl2⟩
              have hG4 : w4.heap[g]? = some (tabBox t (some ad) c1 A2 c2 A3 c3) := blk_mod hGa hmod HNE1.out
              have hX4 : w4.heap[bx]? = some (Obj.cells #[Value.string x.name, Value.int IntKind.i64 x.type, Value.bool x.notNull] 62) := blk_mod hA1 hmod hbm
              have hI4 : MetSt w4 gi mi [] := hMi.keep hmod HNE2.out HNE3.out
              have hB4 : Below w.heap.size w w4 := Mod.below hBa hmod hBa.size (fun i hi => by omega)
              have HALL4 : Aside0 (w4.heap[g]? = some (tabBox t (some ad) c1 A2 c2 A3 c3) ∧ MetSt w4 gc mc l2 ∧ MetSt w4 gi mi [] ∧ Below w.heap.size w w4) := ⟨hG4, hs2, hI4, hB4⟩
              have HL2 := Lib.hid hl2
              have r1 : w4.cell? ⟨bx, 1, none⟩ = some (.int .i64 x.type) := blk_cell hX4 1
              clear hG4 hs2 hI4 hB4 hl2 hX4 hmod hbm hMa hMi hGa hBa hA0 hA1 hwa hbx
              by_cases hno : NameOk x.name ∧ ¬ x.name ∈ l'
              · rw [decide_eq_true hno]
                have HNO := Lib.hid hno
                clear hno
                go_wp2_with fail
                refine (typed_any x.type _).mono ?_
                rintro e w5 ⟨rfl, hw5⟩
                obtain rfl := hw5.symm
                by_cases hto : TypeOk x.type
                · rw [decide_eq_true hto]
                  have HTO := Lib.hid hto
                  clear hto
                  go_wp2_with fail
                  go_roundg (t.cols.length - (k + 1))
                  case measure => have := HGN.out; omega
                  case rel => exact ⟨k + 1, l2, by go_num, ⟨by have := HGN.out; omega, fun y hy => by
                    rw [hts.out, List.mem_append, List.mem_singleton] at hy
                    rcases hy with h | h
                    · exact HALL.out y h
                    · rw [h]; exact HNO.out.1, by
                    rw [hts.out, nodup_snoc]
                    exact ⟨HND.out, fun h => HNO.out.2 ((HL.out _).2 h)⟩, fun y hy => by
                    rw [hts2.out, List.mem_append, List.mem_singleton] at hy
                    rcases hy with h | h
                    · exact HTY.out y h
                    · rw [h]; exact HTO.out, fun y => by
                    rw [hts.out, HL2.out, HL.out, List.mem_append, List.mem_singleton, or_comm]⟩, HALL4⟩
                · rw [decide_eq_false hto]
                  have HTO := Lib.hid hto
                  clear hto
                  go_wp2_with fail
                  go_ret
                  exact ⟨ret_bool (decide_eq_false (fun h => HTO.out (h.2.2.2.2.2.1 x hmem.out))).symm, HALL4.out.2.2.2⟩
              · rw [decide_eq_false hno]
                have HNO := Lib.hid hno
                clear hno
                go_wp2_with fail
                go_ret
                refine ⟨ret_bool (decide_eq_false (fun h => HNO.out ⟨h.2.2.2.2.1.1 _ hmem2.out, fun hin => ?_⟩)).symm, HALL4.out.2.2.2⟩
                have h3 := nodup_take _ (k + 1) h.2.2.2.2.1.2
                rw [hts.out, nodup_snoc] at h3
                exact h3.2 ((HL.out _).1 hin)
            · have hxs : (t.cols.map (·.name)).take k = t.cols.map (·.name) := List.take_of_length_le (by rw [List.length_map]; omega)
              have hxs2 : t.cols.take k = t.cols := List.take_of_length_le (by omega)
              rw [hxs] at HALL HND
              rw [hxs2] at HTY
              clear hxs hxs2 HL
              clear HG1
              clear HGM
              have HX : Aside0 (wr.heap[g]? = some (tabBox t A1 c1 A2 c2 A3 c3) ∧ MetSt wr gi mi [] ∧ Below w.heap.size w wr) := ⟨hM.out.1, hM.out.2.2⟩
              clear hM f1
              have f1 : wr.cell? ⟨g, 1, none⟩ = some (.slice A1 t.cols.length c1) := blk_cell HX.out.1 1
              have f2 : wr.cell? ⟨g, 2, none⟩ = some (.slice A2 t.key.length c2) := blk_cell HX.out.1 2
              go_wp2_with fail
              refine (places_any A2 t.key.length c2 t.key t.cols.length _ (Kd.C_below HC2.out HX.out.2.2) (by omega)).mono ?_
              rintro e w5 ⟨rfl, hb5⟩
              have HX5 : Aside0 (w5.heap[g]? = some (tabBox t A1 c1 A2 c2 A3 c3) ∧ MetSt w5 gi mi [] ∧ Below w.heap.size w w5) := ⟨blk_below HX.out.1 hb5, HX.out.2.1.keep (S := fun _ => False) (Mod.of_below hb5) (fun h => h) (fun h => h), below_then HX.out.2.2 HX.out.2.2.size hb5⟩
              clear HX f1 f2 hb5
              by_cases hpk : PlacesOk t.key t.cols.length
              · rw [decide_eq_true hpk]
                have f2 : w5.cell? ⟨g, 2, none⟩ = some (.slice A2 t.key.length c2) := blk_cell HX5.out.1 2
                have f3 : w5.cell? ⟨g, 3, none⟩ = some (.int .i64 t.part) := blk_cell HX5.out.1 3
                have HPK := Lib.hid hpk
                clear hpk
                go_wp2_with fail
                refine (contains_int A2 t.key.length c2 t.key t.part _ (Kd.C_below HC2.out HX5.out.2.2) (by omega)).mono ?_
                rintro e w6 ⟨rfl, hw6⟩
                obtain rfl := hw6.symm
                by_cases hpt : t.part ∈ t.key
                · rw [decide_eq_true hpt]
                  have HPT := Lib.hid hpt
                  clear hpt
                  go_wp2_with fail
                  go_loop [72] (fun i => ∃ k : Nat, i = .int .i64 k ∧ Aside0 (k ≤ t.key.length ∧ ∀ x ∈ t.key.take k, (t.cols.getD x.toNat default).notNull = true)) (fun i => t.key.length - (intOf i).toNat)
                  case atStart => exact ⟨0, rfl, ⟨by omega, by simp⟩⟩
                  case round =>
                    obtain ⟨k, rfl, ⟨hk0, hall⟩⟩ := hrel
                    have HNN := Lib.hid hall
                    clear hall
                    by_cases hk : k < t.key.length
                    · obtain ⟨ad, rfl, hcell0⟩ := int_at HC2.out k hk
                      have hcell : w5.cell? (ad.add k) = some (.int .i64 (t.key.getD k 0)) := pw_cell_below HX5.out.2.2 hcell0
                      have hts := Lib.hid (take_snoc t.key k 0 hk)
                      have hmem := Lib.hid (getD_mem t.key k 0 hk)
                      obtain ⟨y, hy⟩ : ∃ y, y = t.key.getD k 0 := ⟨_, rfl⟩
                      rw [← hy] at hcell hts hmem
                      clear hy hcell0
                      have hy0 : 0 ≤ y := (HPK.out.2.2.1 y hmem.out).1
                      have hy1 : y < t.cols.length := (HPK.out.2.2.1 y hmem.out).2
                      obtain ⟨z, rfl⟩ := Int.eq_ofNat_of_zero_le hy0
                      obtain ⟨ad2, cs, rfl, hlen, hcs, hcell2⟩ := C_at HC1.out z (by omega) default
                      rw [kCol_K] at hcs
                      subst hcs
                      have q2 : w5.cell? (ad2.add (z * 3 + 2)) = some (.bool (t.cols.getD z default).notNull) := pw_cell_below HX5.out.2.2 (hcell2 2 _ rfl)
                      replace q2 := cell_off (j := 1) q2
                      have f1 : w5.cell? ⟨g, 1, none⟩ = some (.slice (some ad2) t.cols.length c1) := blk_cell HX5.out.1 1
                      clear hcell2 hlen
                      have p0 : (0 : Int) ≤ k := by omega
                      have p1 : (k : Int) < t.key.length := by omega
                      cases hnn : (t.cols.getD z default).notNull with
                      | true =>
                        rw [hnn] at q2
                        have HNN2 := Lib.hid hnn
                        clear hnn
                        go_wp2_with fail
                        go_round
                        case rel => exact ⟨k + 1, by go_num, ⟨by omega, fun y hy => by
                          rw [hts.out, List.mem_append, List.mem_singleton] at hy
                          rcases hy with h | h
                          · exact HNN.out y h
                          · rw [h]; exact HNN2.out⟩⟩
                        case measure => simp [intOf]; omega
                      | false =>
                        rw [hnn] at q2
                        have HNN2 := Lib.hid hnn
                        clear hnn
                        go_wp2_with fail
                        go_ret
                        exact ⟨ret_bool (decide_eq_false (fun h => by
                          have h1 := h.2.2.2.2.2.2.2.1 _ hmem.out
                          have h2 := HNN2.out
                          have h3 : (t.cols.getD z default).notNull = true := h1
                          rw [h2] at h3
                          cases h3)).symm, HX5.out.2.2⟩
                    · have hxs : t.key.take k = t.key := List.take_of_length_le (by omega)
                      rw [hxs] at HNN
                      clear hxs
                      have f4 : w5.cell? ⟨g, 4, none⟩ = some (.slice A3 t.idx.length c3) := blk_cell HX5.out.1 4
                      clear f2 f3
                      go_wp2_with fail
                      clear f4
                      go_loopg [87] t.idx.length (fun gn i wr => ∃ (k : Nat) (l' : List ByteArray), i = .int .i64 k ∧ Aside0 (k + gn = t.idx.length ∧ (∀ x ∈ (t.idx.map (·.name)).take k, NameOk x) ∧ ((t.idx.map (·.name)).take k).Nodup ∧ (∀ c ∈ t.idx.take k, PlacesOk c.columns t.cols.length) ∧ ∀ x, x ∈ l' ↔ x ∈ (t.idx.map (·.name)).take k) ∧ Aside0 (wr.heap[g]? = some (tabBox t A1 c1 A2 c2 A3 c3) ∧ MetSt wr gi mi l' ∧ Below w.heap.size w wr))
                      case atStart => exact ⟨0, [], rfl, ⟨by omega, by simp, by simp, by simp, by simp⟩, HX5⟩
                      case round =>
                        obtain ⟨k, l', rfl, ⟨hg', hall, hnd, hty, hl'⟩, hM⟩ := hrel
                        clear HX5
                        have HALL2 := Lib.hid hall
                        have HND2 := Lib.hid hnd
                        have HPL := Lib.hid hty
                        have HL := Lib.hid hl'
                        have HGN := Lib.hid hg'
                        clear hall hnd hty hl' hg'
                        by_cases hk : k < t.idx.length
                        · obtain ⟨ad, cs, rfl, hlen, hcs, hcell⟩ := C_at HC3.out k hk default
                          have hkm : k < (t.idx.map (·.name)).length := by simpa using hk
                          have hts := Lib.hid (take_snoc (t.idx.map (·.name)) k ByteArray.empty hkm)
                          have hts2 := Lib.hid (take_snoc t.idx k default hk)
                          have hmem := Lib.hid (getD_mem t.idx k default hk)
                          have hnm0 : (t.idx.map (·.name)).getD k ByteArray.empty = (t.idx.getD k default).name := by simp [List.getD, List.getElem?_eq_getElem hk]
                          have hmem2 := Lib.hid (getD_mem (t.idx.map (·.name)) k ByteArray.empty hkm)
                          rw [hnm0] at hts hmem2
                          obtain ⟨x, hx⟩ : ∃ x, x = t.idx.getD k default := ⟨_, rfl⟩
                          rw [← hx] at hcs hts hts2 hmem hmem2
                          rw [kIdx_K] at hcs
                          obtain ⟨v, rfl, Ax, cx, rfl, hlx, hCx⟩ := hcs
                          have HCX := Aside0.mk hCx
                          have q0 : wr.cell? (ad.add (k * 3)) = some (.string x.name) := pw_cell_below hM.out.2.2 (hcell 0 _ rfl)
                          have q1 : wr.cell? (ad.add (k * 3 + 1)) = some (.slice Ax x.columns.length cx) := pw_cell_below hM.out.2.2 (hcell 1 _ rfl)
                          replace q1 := cell_off (j := 0) q1
                          have q2 : wr.cell? (ad.add (k * 3 + 2)) = some (.bool x.unique) := pw_cell_below hM.out.2.2 (hcell 2 _ rfl)
                          replace q2 := cell_off (j := 1) q2
                          clear hcell hnm0 hx hkm hlen hCx
                          have p0 : (0 : Int) ≤ k := by omega
                          have p1 : (k : Int) < t.idx.length := by omega
                          go_wp2_with fail
                          obtain ⟨bx, hbx⟩ : ∃ bx, bx = wr.heap.size := ⟨_, rfl⟩
                          obtain ⟨wa, hwa⟩ : ∃ wa, wa = wr.alloc (Obj.cells #[Value.string x.name, Value.slice Ax x.columns.length cx, Value.bool x.unique] 64) := ⟨_, rfl⟩
                          have hA0 : Below wr.heap.size wr wa := by rw [hwa]; exact below_alloc (Below.refl _ _) _
                          have hA1 : wa.heap[bx]? = some (Obj.cells #[Value.string x.name, Value.slice Ax x.columns.length cx, Value.bool x.unique] 64) := by rw [hwa, hbx]; exact blk_alloc _ _
                          rw [← hwa, ← hbx]
                          have hMi : MetSt wa gi mi l' := hM.out.2.1.keep (S := fun _ => False) (Mod.of_below hA0) (fun h => h) (fun h => h)
                          have hGa : wa.heap[g]? = some (tabBox t A1 c1 A2 c2 (some ad) c3) := blk_below hM.out.1 hA0
                          have hBa : Below w.heap.size w wa := below_then hM.out.2.2 hM.out.2.2.size hA0
                          have hbm : bx ≠ mi := by have := hM.out.2.1.map.lt; omega
                          refine (metnext_any x.name gi mi l' wa hMi).mono ?_
                          rintro e w4 ⟨rfl, hmod, l2, hs2, hl2⟩
                          have hG4 : w4.heap[g]? = some (tabBox t A1 c1 A2 c2 (some ad) c3) := blk_mod hGa hmod HNE4.out
                          have hX4 : w4.heap[bx]? = some (Obj.cells #[Value.string x.name, Value.slice Ax x.columns.length cx, Value.bool x.unique] 64) := blk_mod hA1 hmod hbm
                          have hB4 : Below w.heap.size w w4 := Mod.below hBa hmod hBa.size (fun i hi => by omega)
                          have HALL4 : Aside0 (w4.heap[g]? = some (tabBox t A1 c1 A2 c2 (some ad) c3) ∧ MetSt w4 gi mi l2 ∧ Below w.heap.size w w4) := ⟨hG4, hs2, hB4⟩
                          have HL2 := Lib.hid hl2
                          have r1 : w4.cell? ⟨bx, 1, none⟩ = some (.slice Ax x.columns.length cx) := blk_cell hX4 1
                          have r2 : w4.cell? ⟨g, 1, none⟩ = some (.slice A1 t.cols.length c1) := blk_cell hG4 1
                          clear hG4 hs2 hB4 hl2 hX4 hmod hbm hMi hGa hBa hA0 hA1 hwa hbx
                          by_cases hno : NameOk x.name ∧ ¬ x.name ∈ l'
                          · rw [decide_eq_true hno]
                            have HNO := Lib.hid hno
                            clear hno
                            go_wp2_with fail
                            refine (places_any Ax x.columns.length cx x.columns t.cols.length _ (Kd.C_below HCX.out HALL4.out.2.2) HCX.out.2.1).mono ?_
                            rintro e w7 ⟨rfl, hb7⟩
                            have HALL7 : Aside0 (w7.heap[g]? = some (tabBox t A1 c1 A2 c2 (some ad) c3) ∧ MetSt w7 gi mi l2 ∧ Below w.heap.size w w7) := ⟨blk_below HALL4.out.1 hb7, HALL4.out.2.1.keep (S := fun _ => False) (Mod.of_below hb7) (fun h => h) (fun h => h), below_then HALL4.out.2.2 HALL4.out.2.2.size hb7⟩
                            clear HALL4 hb7 r1 r2
                            by_cases hto : PlacesOk x.columns t.cols.length
                            · rw [decide_eq_true hto]
                              have HTO := Lib.hid hto
                              clear hto
                              go_wp2_with fail
                              go_roundg (t.idx.length - (k + 1))
                              case measure => have := HGN.out; omega
                              case rel => exact ⟨k + 1, l2, by go_num, ⟨by have := HGN.out; omega, fun y hy => by
                                rw [hts.out, List.mem_append, List.mem_singleton] at hy
                                rcases hy with h | h
                                · exact HALL2.out y h
                                · rw [h]; exact HNO.out.1, by
                                rw [hts.out, nodup_snoc]
                                exact ⟨HND2.out, fun h => HNO.out.2 ((HL.out _).2 h)⟩, fun y hy => by
                                rw [hts2.out, List.mem_append, List.mem_singleton] at hy
                                rcases hy with h | h
                                · exact HPL.out y h
                                · rw [h]; exact HTO.out, fun y => by
                                rw [hts.out, HL2.out, HL.out, List.mem_append, List.mem_singleton, or_comm]⟩, HALL7⟩
                            · rw [decide_eq_false hto]
                              have HTO := Lib.hid hto
                              clear hto
                              go_wp2_with fail
                              go_ret
                              exact ⟨ret_bool (decide_eq_false (fun h => HTO.out (h.2.2.2.2.2.2.2.2.2.1 x hmem.out))).symm, HALL7.out.2.2⟩
                          · rw [decide_eq_false hno]
                            have HNO := Lib.hid hno
                            clear hno
                            go_wp2_with fail
                            go_ret
                            refine ⟨ret_bool (decide_eq_false (fun h => HNO.out ⟨h.2.2.2.2.2.2.2.2.2.2.1 _ hmem2.out, fun hin => ?_⟩)).symm, HALL4.out.2.2⟩
                            have h3 := nodup_take _ (k + 1) h.2.2.2.2.2.2.2.2.2.2.2
                            rw [hts.out, nodup_snoc] at h3
                            exact h3.2 ((HL.out _).1 hin)
                        · have hxs : (t.idx.map (·.name)).take k = t.idx.map (·.name) := List.take_of_length_le (by rw [List.length_map]; omega)
                          have hxs2 : t.idx.take k = t.idx := List.take_of_length_le (by omega)
                          rw [hxs] at HALL2 HND2
                          rw [hxs2] at HPL
                          clear hxs hxs2 HL
                          go_wp2_with fail
                          go_ret
                          exact ⟨ret_bool (decide_eq_true (show MayTab t from ⟨hnm, by omega, by omega, by omega, ⟨HALL.out, HND.out⟩, HTY.out, HPK.out, HNN.out, HPT.out, HPL.out, HALL2.out, HND2.out⟩)).symm, hM.out.2.2⟩
                · rw [decide_eq_false hpt]
                  have HPT := Lib.hid hpt
                  clear hpt
                  go_wp2_with fail
                  go_ret
                  exact ⟨ret_bool (decide_eq_false (fun h => HPT.out h.2.2.2.2.2.2.2.2.1)).symm, HX5.out.2.2⟩
              · rw [decide_eq_false hpk]
                have HPK := Lib.hid hpk
                clear hpk
                go_wp2_with fail
                go_ret
                exact ⟨ret_bool (decide_eq_false (fun h => HPK.out h.2.2.2.2.2.2.1)).symm, HX5.out.2.2⟩
  · rw [decide_eq_false hnm]
    go_wp2_with fail
    go_ret
    exact ⟨ret_bool (decide_eq_false (fun h => hnm h.1)).symm, HB1.out⟩
end Go.Proofs.Ytcmgdieeclninaa
