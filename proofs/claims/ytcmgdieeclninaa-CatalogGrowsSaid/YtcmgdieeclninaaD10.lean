/- Layer 8: the walk of Right. -/
import Derived.Test.YtcmgdieeclninaaD9
set_option linter.unusedVariables false
set_option linter.unusedSimpArgs false
namespace Go.Proofs.Ytcmgdieeclninaa
open Go.RowKit Go.Proofs.YtcmgdieeclninaaW.PrintWords
def catBox (n1 n2 : Nat) (A1 : Option Addr) (c1 : Nat) (A2 : Option Addr) (c2 : Nat) : Obj := .cells #[.slice A1 n1 c1, .slice A2 n2 c2] 25 (0, 0)
set_option maxRecDepth 100000 in
set_option maxHeartbeats 4000000 in
theorem right_any (c : Cat) (A1 : Option Addr) (c1 : Nat) (A2 : Option Addr) (c2 : Nat) (w : World)
    (hC1 : kTab.C w A1 c.tables.length c.tables) (hC2 : kPrc.C w A2 c.procs.length c.procs) :
    Calls Try.prog 22 #[.agg #[.slice A1 c.tables.length c1, .slice A2 c.procs.length c2]] w fun e w' => e = .returned (.bool (decide (RightCat c))) ∧ Below w.heap.size w w' := by
  have hn1 := hC1.2.1
  have hn2 := hC2.2.1
  have HC1 := Aside0.mk hC1
  have HC2 := Aside0.mk hC2
  clear hC1 hC2
  by_cases t1 : 8 < c.tables.length
  · go_enter Try.func22, Try.ntmps22
    go_wp2_with fail
    go_ret
    exact ⟨ret_bool (decide_eq_false (fun h => by have := h.1; omega)).symm, below_alloc (Below.refl _ _) _⟩
  · by_cases t2 : 16 < c.procs.length
    · go_enter Try.func22, Try.ntmps22
      go_wp2_with fail
      go_ret
      exact ⟨ret_bool (decide_eq_false (fun h => by have := h.2.1; omega)).symm, below_alloc (Below.refl _ _) _⟩
    · go_enter Try.func22, Try.ntmps22
      go_wp2_with fail
      have hg1 : (w.alloc (Obj.cells #[.slice A1 c.tables.length c1, .slice A2 c.procs.length c2] 25)).heap[w.heap.size]? = some (catBox c.tables.length c.procs.length A1 c1 A2 c2) := blk_alloc w _
      have hb1 : Below w.heap.size w (w.alloc (Obj.cells #[.slice A1 c.tables.length c1, .slice A2 c.procs.length c2] 25)) := below_alloc (Below.refl _ _) _
      obtain ⟨w1, hw1⟩ : ∃ w1, w1 = w.alloc (Obj.cells #[.slice A1 c.tables.length c1, .slice A2 c.procs.length c2] 25) := ⟨_, rfl⟩
      obtain ⟨g, hg⟩ : ∃ g, g = w.heap.size := ⟨_, rfl⟩
      rw [← hw1] at hg1 hb1
      rw [← hg] at hg1
      rw [← hw1, ← hg]
      have HG := Lib.hid hg
      clear hw1 hg
      refine (met_any _).mono ?_
      rintro e w2 ⟨gc, mc, rfl, hs2, hgc, hmc, hb2⟩
      go_wp2_with fail
      refine (met_any _).mono ?_
      rintro e w3 ⟨gi, mi, rfl, hs3, hgi, hmi, hb3⟩
      have hM0 : Aside0 (w3.heap[g]? = some (catBox c.tables.length c.procs.length A1 c1 A2 c2) ∧ MetSt w3 gc mc [] ∧ MetSt w3 gi mi [] ∧ Below w.heap.size w w3) :=
        ⟨blk_below (blk_below hg1 hb2) hb3, hs2.keep (S := fun _ => False) (Mod.of_below hb3) (fun h => h) (fun h => h), hs3, below_then (below_then hb1 hb1.size hb2) (by have := hb1.size; have := hb2.size; omega) hb3⟩
      have hs1 : g < w1.heap.size := blk_lt hg1
      have hgc2 : gc < w2.heap.size := blk_lt hs2.var
      have hmc2 : mc < w2.heap.size := hs2.map.lt
      have hmd : w.heap.size ≤ mc := by have := hb1.size; omega
      have hmid : w.heap.size ≤ mi := by have := hb1.size; have := hb2.size; omega
      have hne1 : g ≠ mc := by omega
      have hne2 : gi ≠ mc := by omega
      have hne3 : mi ≠ mc := by omega
      have hne4 : g ≠ mi := by have := hb2.size; omega
      have HNE1 := Lib.hid hne1
      have HNE2 := Lib.hid hne2
      have HNE3 := Lib.hid hne3
      have HNE4 := Lib.hid hne4
      clear hg1 hb1 hs2 hb2 hb3 hgc hmc hgi hmi hs1 hgc2 hmc2 hne1 hne2 hne3 hne4 hs3
      have f0 : w3.cell? ⟨g, 0, none⟩ = some (.slice A1 c.tables.length c1) := blk_cell hM0.out.1 0
      go_wp2_with fail
      clear f0
      go_loopg [24] c.tables.length (fun gn i wr => ∃ (k : Nat) (l' : List ByteArray), i = .int .i64 k ∧ Aside0 (k + gn = c.tables.length ∧ (∀ x ∈ c.tables.take k, MayTab x) ∧ (∀ x ∈ (c.tables.map (·.name)).take k, NameOk x) ∧ ((c.tables.map (·.name)).take k).Nodup ∧ ∀ x, x ∈ l' ↔ x ∈ (c.tables.map (·.name)).take k) ∧ Aside0 (wr.heap[g]? = some (catBox c.tables.length c.procs.length A1 c1 A2 c2) ∧ MetSt wr gc mc l' ∧ MetSt wr gi mi [] ∧ Below w.heap.size w wr))
      case atStart => exact ⟨0, [], rfl, ⟨by omega, by simp, by simp, by simp, by simp⟩, hM0⟩
      case round =>
        obtain ⟨k, l', rfl, ⟨hg', hmay, hall, hnd, hl'⟩, hM⟩ := hrel
        clear hM0
        have HMAYtables := Lib.hid hmay
        have HALLtables := Lib.hid hall
        have HNDtables := Lib.hid hnd
        have HL := Lib.hid hl'
        have HGN := Lib.hid hg'
        clear hmay hall hnd hl' hg'
        by_cases hk : k < c.tables.length
        · obtain ⟨ad, x, B1, d1, B2, d2, B3, d3, rfl, hx, hmem0, hts0, q0, q1, q2, q3, q4, hc1, hc2, hc3⟩ := tab_at HC1.out hM.out.2.2.2 k hk
          have hts2 := Lib.hid hts0
          have hts := Lib.hid (take_map (·.name) _ k x hts0)
          have hmem := Lib.hid hmem0
          have hmem2 := Lib.hid (List.mem_map_of_mem (f := (·.name)) hmem0)
          have HCX1 := Aside0.mk hc1.2
          have HCX2 := Aside0.mk hc2.2
          have HCX3 := Aside0.mk hc3.2
          clear hx hmem0 hts0 hc1 hc2 hc3
          have p0 : (0 : Int) ≤ k := by omega
          have p1 : (k : Int) < c.tables.length := by omega
          go_wp2_with fail
          obtain ⟨bx, hbx⟩ : ∃ bx, bx = wr.heap.size := ⟨_, rfl⟩
          obtain ⟨wa, hwa⟩ : ∃ wa, wa = wr.alloc (Obj.cells #[.string x.name, .slice B1 x.cols.length d1, .slice B2 x.key.length d2, .int .i64 x.part, .slice B3 x.idx.length d3] 30) := ⟨_, rfl⟩
          have hA0 : Below wr.heap.size wr wa := by rw [hwa]; exact below_alloc (Below.refl _ _) _
          have hA1 : wa.heap[bx]? = some (Obj.cells #[.string x.name, .slice B1 x.cols.length d1, .slice B2 x.key.length d2, .int .i64 x.part, .slice B3 x.idx.length d3] 30) := by rw [hwa, hbx]; exact blk_alloc _ _
          rw [← hwa, ← hbx]
          have hBa : Below w.heap.size w wa := below_then hM.out.2.2.2 hM.out.2.2.2.size hA0
          refine (mayTab_any x B1 d1 B2 d2 B3 d3 wa (Kd.C_below HCX1.out hBa) (Kd.C_below HCX2.out hBa) (Kd.C_below HCX3.out hBa)).mono ?_
          rintro e w5 ⟨rfl, hb5⟩
          have hMi : MetSt w5 gc mc l' := (hM.out.2.1.keep (S := fun _ => False) (Mod.of_below hA0) (fun h => h) (fun h => h)).keep (S := fun _ => False) (Mod.of_below hb5) (fun h => h) (fun h => h)
          have hIi : MetSt w5 gi mi [] := (hM.out.2.2.1.keep (S := fun _ => False) (Mod.of_below hA0) (fun h => h) (fun h => h)).keep (S := fun _ => False) (Mod.of_below hb5) (fun h => h) (fun h => h)
          have hGa : w5.heap[g]? = some (catBox c.tables.length c.procs.length (some ad) c1 A2 c2) := blk_below (blk_below hM.out.1 hA0) hb5
          have hBa5 : Below w.heap.size w w5 := below_then hBa hBa.size hb5
          have hX5 : w5.heap[bx]? = some (Obj.cells #[.string x.name, .slice B1 x.cols.length d1, .slice B2 x.key.length d2, .int .i64 x.part, .slice B3 x.idx.length d3] 30) := blk_below hA1 hb5
          have hbm : bx ≠ mc := by have := hM.out.2.1.map.lt; omega
          have r0 : w5.cell? ⟨bx, 0, none⟩ = some (.string x.name) := blk_cell hX5 0
          have H5 : Aside0 (MetSt w5 gc mc l' ∧ w5.heap[g]? = some (catBox c.tables.length c.procs.length (some ad) c1 A2 c2) ∧ Below w.heap.size w w5 ∧ MetSt w5 gi mi []) := ⟨hMi, hGa, hBa5, hIi⟩
          have HBM := Lib.hid hbm
          clear hMi hGa hBa5 hX5 hbm hb5 hBa hA0 hA1 hwa hbx hIi
          by_cases hno : MayTab x
          · rw [decide_eq_true hno]
            have HNO := Lib.hid hno
            clear hno
            go_wp2_with fail
            refine (metnext_any x.name gc mc l' w5 H5.out.1).mono ?_
            rintro e w4 ⟨rfl, hmod, l2, hs2, hl2⟩
            have HALL4 : Aside0 (w4.heap[g]? = some (catBox c.tables.length c.procs.length (some ad) c1 A2 c2) ∧ MetSt w4 gc mc l2 ∧ MetSt w4 gi mi [] ∧ Below w.heap.size w w4) := ⟨blk_mod H5.out.2.1 hmod HNE1.out, hs2, H5.out.2.2.2.keep hmod HNE2.out HNE3.out, Mod.below H5.out.2.2.1 hmod H5.out.2.2.1.size (fun i hi => by omega)⟩
            have HL2 := Lib.hid hl2
            clear hs2 hl2 hmod H5 r0
            by_cases hnn : NameOk x.name ∧ ¬ x.name ∈ l'
            · rw [decide_eq_true hnn]
              have HNN := Lib.hid hnn
              clear hnn
              go_wp2_with fail
              go_roundg (c.tables.length - (k + 1))
              case measure => have := HGN.out; omega
              case rel => exact ⟨k + 1, l2, by go_num, ⟨by have := HGN.out; omega, fun y hy => by
                rw [hts2.out, List.mem_append, List.mem_singleton] at hy
                rcases hy with h | h
                · exact HMAYtables.out y h
                · rw [h]; exact HNO.out, fun y hy => by
                rw [hts.out, List.mem_append, List.mem_singleton] at hy
                rcases hy with h | h
                · exact HALLtables.out y h
                · rw [h]; exact HNN.out.1, by
                rw [hts.out, nodup_snoc]
                exact ⟨HNDtables.out, fun h => HNN.out.2 ((HL.out _).2 h)⟩, fun y => by
                rw [hts.out, HL2.out, HL.out, List.mem_append, List.mem_singleton, or_comm]⟩, HALL4⟩
            · rw [decide_eq_false hnn]
              have HNN := Lib.hid hnn
              clear hnn
              go_wp2_with fail
              go_ret
              refine ⟨ret_bool (decide_eq_false (fun h => HNN.out ⟨h.2.2.2.2.1.1 _ hmem2.out, fun hin => ?_⟩)).symm, HALL4.out.2.2.2⟩
              have h3 := nodup_take _ (k + 1) h.2.2.2.2.1.2
              rw [hts.out, nodup_snoc] at h3
              exact h3.2 ((HL.out _).1 hin)
          · rw [decide_eq_false hno]
            have HNO := Lib.hid hno
            clear hno
            go_wp2_with fail
            go_ret
            exact ⟨ret_bool (decide_eq_false (fun h => HNO.out (h.2.2.1 x hmem.out))).symm, H5.out.2.2.1⟩
        · have hxs : (c.tables.map (·.name)).take k = c.tables.map (·.name) := List.take_of_length_le (by rw [List.length_map]; omega)
          have hxs2 : c.tables.take k = c.tables := List.take_of_length_le (by omega)
          rw [hxs] at HALLtables HNDtables
          rw [hxs2] at HMAYtables
          clear hxs hxs2 HL
          have hM0 : Aside0 (wr.heap[g]? = some (catBox c.tables.length c.procs.length A1 c1 A2 c2) ∧ MetSt wr gi mi [] ∧ Below w.heap.size w wr) := ⟨hM.out.1, hM.out.2.2⟩
          clear hM
          have f1 : wr.cell? ⟨g, 1, none⟩ = some (.slice A2 c.procs.length c2) := blk_cell hM0.out.1 1
          go_wp2_with fail
          clear f1
          go_loopg [42] c.procs.length (fun gn i wr => ∃ (k : Nat) (l' : List ByteArray), i = .int .i64 k ∧ Aside0 (k + gn = c.procs.length ∧ (∀ x ∈ c.procs.take k, MayPrc x) ∧ (∀ x ∈ (c.procs.map (·.name)).take k, NameOk x) ∧ ((c.procs.map (·.name)).take k).Nodup ∧ ∀ x, x ∈ l' ↔ x ∈ (c.procs.map (·.name)).take k) ∧ Aside0 (wr.heap[g]? = some (catBox c.tables.length c.procs.length A1 c1 A2 c2) ∧ MetSt wr gi mi l' ∧ Below w.heap.size w wr))
          case atStart => exact ⟨0, [], rfl, ⟨by omega, by simp, by simp, by simp, by simp⟩, hM0⟩
          case round =>
            obtain ⟨k, l', rfl, ⟨hg', hmay, hall, hnd, hl'⟩, hM⟩ := hrel
            clear hM0
            have HMAYprocs := Lib.hid hmay
            have HALLprocs := Lib.hid hall
            have HNDprocs := Lib.hid hnd
            have HL := Lib.hid hl'
            have HGN := Lib.hid hg'
            clear hmay hall hnd hl' hg'
            by_cases hk : k < c.procs.length
            · obtain ⟨ad, x, B1, d1, B2, d2, rfl, hx, hmem0, hts0, q0, q1, q2, q3, q4, hc1, hc2⟩ := prc_at HC2.out hM.out.2.2 k hk
              have hts2 := Lib.hid hts0
              have hts := Lib.hid (take_map (·.name) _ k x hts0)
              have hmem := Lib.hid hmem0
              have hmem2 := Lib.hid (List.mem_map_of_mem (f := (·.name)) hmem0)
              have HCX1 := Aside0.mk hc1.2
              have HCX2 := Aside0.mk hc2.2
              clear hx hmem0 hts0 hc1 hc2
              have p0 : (0 : Int) ≤ k := by omega
              have p1 : (k : Int) < c.procs.length := by omega
              go_wp2_with fail
              obtain ⟨bx, hbx⟩ : ∃ bx, bx = wr.heap.size := ⟨_, rfl⟩
              obtain ⟨wa, hwa⟩ : ∃ wa, wa = wr.alloc (Obj.cells #[.string x.name, .slice B1 x.params.length d1, .slice B2 x.body.length d2, .int .i64 x.rows, .int .i64 x.bytes] 34) := ⟨_, rfl⟩
              have hA0 : Below wr.heap.size wr wa := by rw [hwa]; exact below_alloc (Below.refl _ _) _
              have hA1 : wa.heap[bx]? = some (Obj.cells #[.string x.name, .slice B1 x.params.length d1, .slice B2 x.body.length d2, .int .i64 x.rows, .int .i64 x.bytes] 34) := by rw [hwa, hbx]; exact blk_alloc _ _
              rw [← hwa, ← hbx]
              have hBa : Below w.heap.size w wa := below_then hM.out.2.2 hM.out.2.2.size hA0
              refine (mayPrc_any x B1 d1 B2 d2 wa (Kd.C_below HCX1.out hBa) (Kd.C_below HCX2.out hBa)).mono ?_
              rintro e w5 ⟨rfl, hb5⟩
              have hMi : MetSt w5 gi mi l' := (hM.out.2.1.keep (S := fun _ => False) (Mod.of_below hA0) (fun h => h) (fun h => h)).keep (S := fun _ => False) (Mod.of_below hb5) (fun h => h) (fun h => h)
              have hGa : w5.heap[g]? = some (catBox c.tables.length c.procs.length A1 c1 (some ad) c2) := blk_below (blk_below hM.out.1 hA0) hb5
              have hBa5 : Below w.heap.size w w5 := below_then hBa hBa.size hb5
              have hX5 : w5.heap[bx]? = some (Obj.cells #[.string x.name, .slice B1 x.params.length d1, .slice B2 x.body.length d2, .int .i64 x.rows, .int .i64 x.bytes] 34) := blk_below hA1 hb5
              have hbm : bx ≠ mi := by have := hM.out.2.1.map.lt; omega
              have r0 : w5.cell? ⟨bx, 0, none⟩ = some (.string x.name) := blk_cell hX5 0
              have H5 : Aside0 (MetSt w5 gi mi l' ∧ w5.heap[g]? = some (catBox c.tables.length c.procs.length A1 c1 (some ad) c2) ∧ Below w.heap.size w w5) := ⟨hMi, hGa, hBa5⟩
              have HBM := Lib.hid hbm
              clear hMi hGa hBa5 hX5 hbm hb5 hBa hA0 hA1 hwa hbx
              by_cases hno : MayPrc x
              · rw [decide_eq_true hno]
                have HNO := Lib.hid hno
                clear hno
                go_wp2_with fail
                refine (metnext_any x.name gi mi l' w5 H5.out.1).mono ?_
                rintro e w4 ⟨rfl, hmod, l2, hs2, hl2⟩
                have HALL4 : Aside0 (w4.heap[g]? = some (catBox c.tables.length c.procs.length A1 c1 (some ad) c2) ∧ MetSt w4 gi mi l2 ∧ Below w.heap.size w w4) := ⟨blk_mod H5.out.2.1 hmod HNE4.out, hs2, Mod.below H5.out.2.2 hmod H5.out.2.2.size (fun i hi => by omega)⟩
                have HL2 := Lib.hid hl2
                clear hs2 hl2 hmod H5 r0
                by_cases hnn : NameOk x.name ∧ ¬ x.name ∈ l'
                · rw [decide_eq_true hnn]
                  have HNN := Lib.hid hnn
                  clear hnn
                  go_wp2_with fail
                  go_roundg (c.procs.length - (k + 1))
                  case measure => have := HGN.out; omega
                  case rel => exact ⟨k + 1, l2, by go_num, ⟨by have := HGN.out; omega, fun y hy => by
                    rw [hts2.out, List.mem_append, List.mem_singleton] at hy
                    rcases hy with h | h
                    · exact HMAYprocs.out y h
                    · rw [h]; exact HNO.out, fun y hy => by
                    rw [hts.out, List.mem_append, List.mem_singleton] at hy
                    rcases hy with h | h
                    · exact HALLprocs.out y h
                    · rw [h]; exact HNN.out.1, by
                    rw [hts.out, nodup_snoc]
                    exact ⟨HNDprocs.out, fun h => HNN.out.2 ((HL.out _).2 h)⟩, fun y => by
                    rw [hts.out, HL2.out, HL.out, List.mem_append, List.mem_singleton, or_comm]⟩, HALL4⟩
                · rw [decide_eq_false hnn]
                  have HNN := Lib.hid hnn
                  clear hnn
                  go_wp2_with fail
                  go_ret
                  refine ⟨ret_bool (decide_eq_false (fun h => HNN.out ⟨h.2.2.2.2.2.1 _ hmem2.out, fun hin => ?_⟩)).symm, HALL4.out.2.2⟩
                  have h3 := nodup_take _ (k + 1) h.2.2.2.2.2.2
                  rw [hts.out, nodup_snoc] at h3
                  exact h3.2 ((HL.out _).1 hin)
              · rw [decide_eq_false hno]
                have HNO := Lib.hid hno
                clear hno
                go_wp2_with fail
                go_ret
                exact ⟨ret_bool (decide_eq_false (fun h => HNO.out (h.2.2.2.1 x hmem.out))).symm, H5.out.2.2⟩
            · have hxs : (c.procs.map (·.name)).take k = c.procs.map (·.name) := List.take_of_length_le (by rw [List.length_map]; omega)
              have hxs2 : c.procs.take k = c.procs := List.take_of_length_le (by omega)
              rw [hxs] at HALLprocs HNDprocs
              rw [hxs2] at HMAYprocs
              clear hxs hxs2 HL
              go_wp2_with fail
              go_ret
              exact ⟨ret_bool (decide_eq_true (show RightCat c from ⟨by omega, by omega, HMAYtables.out, HMAYprocs.out, ⟨HALLtables.out, HNDtables.out⟩, ⟨HALLprocs.out, HNDprocs.out⟩⟩)).symm, hM.out.2.2⟩
end Go.Proofs.Ytcmgdieeclninaa
