/- Layer 8: the walk of the reference's Right. -/
import Derived.Test.YtcmgdieeclninaaD12
set_option linter.unusedVariables false
set_option linter.unusedSimpArgs false
namespace Go.Proofs.Ytcmgdieeclninaa
open Go.RowKit Go.Proofs.YtcmgdieeclninaaW.PrintWords
set_option maxRecDepth 100000 in
set_option maxHeartbeats 4000000 in
theorem rightRef_any (c : Cat) (A1 : Option Addr) (c1 : Nat) (A2 : Option Addr) (c2 : Nat) (w : World)
    (hC1 : kTab.C w A1 c.tables.length c.tables) (hC2 : kPrc.C w A2 c.procs.length c.procs) (hbd : BdCat c) :
    Calls Try.prog 27 #[.agg #[.slice A1 c.tables.length c1, .slice A2 c.procs.length c2]] w fun e w' => e = .returned (.bool (decide (RightCat c))) ∧ Below w.heap.size w w' := by
  have hn1 := hC1.2.1
  have hn2 := hC2.2.1
  have HC1 := Aside0.mk hC1
  have HC2 := Aside0.mk hC2
  have HBD := Lib.hid hbd
  clear hC1 hC2 hbd
  by_cases t1 : 8 < c.tables.length
  · go_enter Try.func27, Try.ntmps27
    go_wp2_with fail
    go_ret
    exact ⟨ret_bool (decide_eq_false (fun h => by have := h.1; omega)).symm, below_alloc (Below.refl _ _) _⟩
  · by_cases t2 : 16 < c.procs.length
    · go_enter Try.func27, Try.ntmps27
      go_wp2_with fail
      go_ret
      exact ⟨ret_bool (decide_eq_false (fun h => by have := h.2.1; omega)).symm, below_alloc (Below.refl _ _) _⟩
    · go_enter Try.func27, Try.ntmps27
      go_wp2_with fail
      have hg1 : (w.alloc (catBox c.tables.length c.procs.length A1 c1 A2 c2)).heap[w.heap.size]? = some (catBox c.tables.length c.procs.length A1 c1 A2 c2) := blk_alloc w _
      have hb1 : Below w.heap.size w (w.alloc (catBox c.tables.length c.procs.length A1 c1 A2 c2)) := below_alloc (Below.refl _ _) _
      have hw0 : w.alloc (Obj.cells #[.slice A1 c.tables.length c1, .slice A2 c.procs.length c2] 25) = w.alloc (catBox c.tables.length c.procs.length A1 c1 A2 c2) := rfl
      try rw [hw0]
      obtain ⟨W1, hw1⟩ : ∃ w1, w1 = w.alloc (catBox c.tables.length c.procs.length A1 c1 A2 c2) := ⟨_, rfl⟩
      obtain ⟨g, hg⟩ : ∃ g, g = w.heap.size := ⟨_, rfl⟩
      rw [← hw1] at hg1 hb1
      rw [← hg] at hg1
      rw [← hw1, ← hg]
      have HG1 := Lib.hid hg1
      have HB1 := Aside0.mk hb1
      clear hw1 hg hw0 hg1 hb1
      go_loopg [3, 5] c.tables.length (fun gn v i wr => ∃ (k : Nat), i = .int .i64 k ∧ Aside0 (k + gn = c.tables.length ∧ ∀ x ∈ c.tables.take k, MayTab x) ∧ Aside0 (Kd.string.R 9 wr W1.heap.size (fun _ => True) v ((c.tables.map (·.name)).take k)) ∧ Aside0 (Below W1.heap.size W1 wr))
      case atStart => exact ⟨0, rfl, ⟨by omega, by simp⟩, ⟨Kd.R_nil _ _ _ _ _⟩, ⟨Below.refl _ _⟩⟩
      case round =>
        obtain ⟨k, rfl, ⟨hgn, hmay⟩, hR, hB⟩ := hrel
        have HMAYtables := Lib.hid hmay
        have HGN := Lib.hid hgn
        clear hmay hgn
        have f0 : wr.cell? ⟨g, 0, none⟩ = some (.slice A1 c.tables.length c1) := blk_cell (blk_below HG1.out hB.out) 0
        by_cases hk : k < c.tables.length
        · have hbw := below_then HB1.out HB1.out.size hB.out
          obtain ⟨ad, x, B1, d1, B2, d2, B3, d3, rfl, hx, hmem0, hts0, q0, q1, q2, q3, q4, hc1, hc2, hc3⟩ := tab_at HC1.out (Below.refl _ _) k hk
          have r0 := pw_cell_below hbw q0
          have r1 := pw_cell_below hbw q1
          have r2 := pw_cell_below hbw q2
          have r3 := pw_cell_below hbw q3
          have r4 := pw_cell_below hbw q4
          have Q0 := Aside0.mk q0
          have hts2 := Lib.hid hts0
          have hts := Lib.hid (take_map (·.name) _ k x hts0)
          have hmem := Lib.hid hmem0
          have HCX1 := Aside0.mk (Kd.C_below hc1.2 hbw)
          have HCX2 := Aside0.mk (Kd.C_below hc2.2 hbw)
          have HCX3 := Aside0.mk (Kd.C_below hc3.2 hbw)
          clear hx hmem0 hts0 hbw q0 q1 q2 q3 q4 hc1 hc2 hc3
          have p0 : (0 : Int) ≤ k := by omega
          have p1 : (k : Int) < c.tables.length := by omega
          have hlen : ((c.tables.map (·.name)).take k).length ≤ 16 := by rw [List.length_take, List.length_map]; omega
          go_wp2_with fail
          refine (mayTabRef_any x B1 d1 B2 d2 B3 d3 _ HCX1.out HCX2.out HCX3.out (HBD.out.1 x hmem.out)).mono ?_
          rintro e w5 ⟨rfl, hb5⟩
          have HM5 : Aside0 (Kd.string.R 9 w5 W1.heap.size (fun _ => True) u3 ((c.tables.map (·.name)).take k) ∧ Below W1.heap.size W1 w5) := ⟨Kd.R_below hR.out hb5, below_then hB.out hB.out.size hb5⟩
          clear hR hB hb5 f0 r0 r1 r2 r3 r4
          have f0 : w5.cell? ⟨g, 0, none⟩ = some (.slice (some ad) c.tables.length c1) := blk_cell (blk_below HG1.out HM5.out.2) 0
          have r0 := pw_cell_below (below_then HB1.out HB1.out.size HM5.out.2) Q0.out
          by_cases hno : MayTab x
          · rw [decide_eq_true hno]
            have HNO := Lib.hid hno
            clear hno
            go_wp2_with (at_builtin; refine Kd.R_append Kd.string (w0 := W1) W1.heap.size rfl (.tmp 36) (.tmp 43) 32 9 (.string ByteArray.empty) 16 rfl Try.underlying32 info9 rfl (by decide) (by omega) _ ((c.tables.map (·.name)).take k) x.name [.string x.name] (fun _ => True) (fun _ => False) rfl rfl ?aP (fun _ hk => hk.elim) ?aF ?aO ?aB ?aS ?aL ?_; (case aP => exact rfl); (case aF => exact (fun _ _ => trivial)); (case aO => exact HM5.out.1); (case aB => exact HM5.out.2); (case aS => exact HM5.out.2.size); (case aL => omega); intro v1 w2 ho2 hb2 hg2 hat2; have hR3 := Aside0.mk ho2; have hB3 := Aside0.mk hb2; clear ho2 hb2 hg2 hat2 r0 f0)
            go_roundg (c.tables.length - (k + 1))
            case measure => have := HGN.out; omega
            case rel => exact ⟨k + 1, by go_num, ⟨by have := HGN.out; omega, fun y hy => by
              rw [hts2.out, List.mem_append, List.mem_singleton] at hy
              rcases hy with h | h
              · exact HMAYtables.out y h
              · rw [h]; exact HNO.out⟩, by rw [hts.out]; exact hR3, hB3⟩
          · rw [decide_eq_false hno]
            have HNO := Lib.hid hno
            clear hno
            go_wp2_with fail
            go_ret
            exact ⟨ret_bool (decide_eq_false (fun h => HNO.out (h.2.2.1 x hmem.out))).symm, below_then HB1.out HB1.out.size HM5.out.2⟩
        · have hxs : (c.tables.map (·.name)).take k = c.tables.map (·.name) := List.take_of_length_le (by rw [List.length_map]; omega)
          have hxs2 : c.tables.take k = c.tables := List.take_of_length_le (by omega)
          rw [hxs] at hR
          rw [hxs2] at HMAYtables
          clear hxs hxs2
          obtain ⟨ltables, hls⟩ : ∃ ls, ls = c.tables.map (·.name) := ⟨_, rfl⟩
          rw [← hls] at hR
          have HLStables := Lib.hid hls
          clear hls
          obtain ⟨ALtables, cLtables, rfl, hlL, hCL⟩ := Kd.R_reads hR.out
          have HCLtables := Aside0.mk hCL
          clear hCL hlL hR
          clear f0
          have HB2 : Aside0 (Below w.heap.size w wr) := ⟨below_then HB1.out HB1.out.size hB.out⟩
          have HG2 := Lib.hid (blk_below HG1.out hB.out)
          have f0 : wr.cell? ⟨g, 0, none⟩ = some (.slice A1 c.tables.length c1) := blk_cell (blk_below HG1.out hB.out) 0
          go_wp2_with fail
          clear f0 hB
          rename World => W2
          go_loopg [4, 7] c.procs.length (fun gn v i wr => ∃ (k : Nat), i = .int .i64 k ∧ Aside0 (k + gn = c.procs.length ∧ ∀ x ∈ c.procs.take k, MayPrc x) ∧ Aside0 (Kd.string.R 9 wr W2.heap.size (fun _ => True) v ((c.procs.map (·.name)).take k)) ∧ Aside0 (Below W2.heap.size W2 wr))
          case atStart => exact ⟨0, rfl, ⟨by omega, by simp⟩, ⟨Kd.R_nil _ _ _ _ _⟩, ⟨Below.refl _ _⟩⟩
          case round =>
            obtain ⟨k, rfl, ⟨hgn, hmay⟩, hR, hB⟩ := hrel
            have HMAYprocs := Lib.hid hmay
            have HGN := Lib.hid hgn
            clear hmay hgn
            have f1 : wr.cell? ⟨g, 1, none⟩ = some (.slice A2 c.procs.length c2) := blk_cell (blk_below HG2.out hB.out) 1
            by_cases hk : k < c.procs.length
            · have hbw := below_then HB2.out HB2.out.size hB.out
              obtain ⟨ad, x, B1, d1, B2, d2, rfl, hx, hmem0, hts0, q0, q1, q2, q3, q4, hc1, hc2⟩ := prc_at HC2.out (Below.refl _ _) k hk
              have r0 := pw_cell_below hbw q0
              have r1 := pw_cell_below hbw q1
              have r2 := pw_cell_below hbw q2
              have r3 := pw_cell_below hbw q3
              have r4 := pw_cell_below hbw q4
              have Q0 := Aside0.mk q0
              have hts2 := Lib.hid hts0
              have hts := Lib.hid (take_map (·.name) _ k x hts0)
              have hmem := Lib.hid hmem0
              have HCX1 := Aside0.mk (Kd.C_below hc1.2 hbw)
              have HCX2 := Aside0.mk (Kd.C_below hc2.2 hbw)
              clear hx hmem0 hts0 hbw q0 q1 q2 q3 q4 hc1 hc2
              have p0 : (0 : Int) ≤ k := by omega
              have p1 : (k : Int) < c.procs.length := by omega
              have hlen : ((c.procs.map (·.name)).take k).length ≤ 16 := by rw [List.length_take, List.length_map]; omega
              go_wp2_with fail
              refine (mayPrcRef_any x B1 d1 B2 d2 _ HCX1.out HCX2.out (HBD.out.2 x hmem.out)).mono ?_
              rintro e w5 ⟨rfl, hb5⟩
              have HM5 : Aside0 (Kd.string.R 9 w5 W2.heap.size (fun _ => True) u4 ((c.procs.map (·.name)).take k) ∧ Below W2.heap.size W2 w5) := ⟨Kd.R_below hR.out hb5, below_then hB.out hB.out.size hb5⟩
              clear hR hB hb5 f1 r0 r1 r2 r3 r4
              have f1 : w5.cell? ⟨g, 1, none⟩ = some (.slice (some ad) c.procs.length c2) := blk_cell (blk_below HG2.out HM5.out.2) 1
              have r0 := pw_cell_below (below_then HB2.out HB2.out.size HM5.out.2) Q0.out
              by_cases hno : MayPrc x
              · rw [decide_eq_true hno]
                have HNO := Lib.hid hno
                clear hno
                go_wp2_with (at_builtin; refine Kd.R_append Kd.string (w0 := W2) W2.heap.size rfl (.tmp 60) (.tmp 67) 32 9 (.string ByteArray.empty) 16 rfl Try.underlying32 info9 rfl (by decide) (by omega) _ ((c.procs.map (·.name)).take k) x.name [.string x.name] (fun _ => True) (fun _ => False) rfl rfl ?aP (fun _ hk => hk.elim) ?aF ?aO ?aB ?aS ?aL ?_; (case aP => exact rfl); (case aF => exact (fun _ _ => trivial)); (case aO => exact HM5.out.1); (case aB => exact HM5.out.2); (case aS => exact HM5.out.2.size); (case aL => omega); intro v1 w2 ho2 hb2 hg2 hat2; have hR3 := Aside0.mk ho2; have hB3 := Aside0.mk hb2; clear ho2 hb2 hg2 hat2 r0 f1)
                go_roundg (c.procs.length - (k + 1))
                case measure => have := HGN.out; omega
                case rel => exact ⟨k + 1, by go_num, ⟨by have := HGN.out; omega, fun y hy => by
                  rw [hts2.out, List.mem_append, List.mem_singleton] at hy
                  rcases hy with h | h
                  · exact HMAYprocs.out y h
                  · rw [h]; exact HNO.out⟩, by rw [hts.out]; exact hR3, hB3⟩
              · rw [decide_eq_false hno]
                have HNO := Lib.hid hno
                clear hno
                go_wp2_with fail
                go_ret
                exact ⟨ret_bool (decide_eq_false (fun h => HNO.out (h.2.2.2.1 x hmem.out))).symm, below_then HB2.out HB2.out.size HM5.out.2⟩
            · have hxs : (c.procs.map (·.name)).take k = c.procs.map (·.name) := List.take_of_length_le (by rw [List.length_map]; omega)
              have hxs2 : c.procs.take k = c.procs := List.take_of_length_le (by omega)
              rw [hxs] at hR
              rw [hxs2] at HMAYprocs
              clear hxs hxs2
              obtain ⟨lprocs, hls⟩ : ∃ ls, ls = c.procs.map (·.name) := ⟨_, rfl⟩
              rw [← hls] at hR
              have HLSprocs := Lib.hid hls
              clear hls
              obtain ⟨ALprocs, cLprocs, rfl, hlL, hCL⟩ := Kd.R_reads hR.out
              have HCLprocs := Aside0.mk hCL
              clear hCL hlL hR
              go_wp2_with fail
              clear f1
              refine (namesref_any ALtables ltables.length cLtables ltables _ (Kd.C_below HCLtables.out hB.out) HCLtables.out.2.1 (fun y hy => by rw [HLStables.out] at hy; obtain ⟨c, hc, rfl⟩ := List.mem_map.1 hy; exact (HBD.out.1 c hc).1)).mono ?_
              rintro e w6 ⟨rfl, hb6⟩
              have HC6 := Aside0.mk (Kd.C_below HCLprocs.out hb6)
              have HB6 := Aside0.mk (below_then (below_then HB2.out HB2.out.size hB.out) (by have := HB2.out.size; have := hB.out.size; omega) hb6)
              clear hb6 hB HCLprocs
              go_wp2_with fail
              refine (namesref_any ALprocs lprocs.length cLprocs lprocs _ HC6.out HC6.out.2.1 (fun y hy => by rw [HLSprocs.out] at hy; obtain ⟨c, hc, rfl⟩ := List.mem_map.1 hy; exact (HBD.out.2 c hc).1)).mono ?_
              rintro e w7 ⟨rfl, hb7⟩
              have HB7 := Aside0.mk (below_then HB6.out HB6.out.size hb7)
              clear hb7 HB6
              by_cases ha : NamesOk ltables
              · rw [decide_eq_true ha]
                by_cases hb : NamesOk lprocs
                · rw [decide_eq_true hb]
                  have HA := Lib.hid ha
                  have HB := Lib.hid hb
                  clear ha hb
                  go_wp2_with fail
                  go_ret
                  exact ⟨ret_bool (decide_eq_true (show RightCat c from ⟨by omega, by omega, HMAYtables.out, HMAYprocs.out, by rw [← HLStables.out]; exact HA.out, by rw [← HLSprocs.out]; exact HB.out⟩)).symm, HB7.out⟩
                · rw [decide_eq_false hb]
                  have HA := Lib.hid ha
                  have HB := Lib.hid hb
                  clear ha hb
                  go_wp2_with fail
                  go_ret
                  exact ⟨ret_bool (decide_eq_false (fun h => HB.out (by rw [HLSprocs.out]; exact h.2.2.2.2.2))).symm, HB7.out⟩
              · rw [decide_eq_false ha]
                have HA := Lib.hid ha
                clear ha
                go_wp2_with fail
                go_ret
                exact ⟨ret_bool (decide_eq_false (fun h => HA.out (by rw [HLStables.out]; exact h.2.2.2.2.1))).symm, HB7.out⟩
end Go.Proofs.Ytcmgdieeclninaa
