/- Layer 8: the walk of the reference's MayProc. -/
import Derived.Test.YtcmgdieeclninaaD11
set_option linter.unusedVariables false
set_option linter.unusedSimpArgs false
namespace Go.Proofs.Ytcmgdieeclninaa
open Go.RowKit Go.Proofs.YtcmgdieeclninaaW.PrintWords
set_option maxRecDepth 100000 in
set_option maxHeartbeats 4000000 in
theorem mayPrcRef_any (p : Prc) (A1 : Option Addr) (c1 : Nat) (A2 : Option Addr) (c2 : Nat) (w : World)
    (hC1 : kPrm.C w A1 p.params.length p.params) (hC2 : Kd.string.C w A2 p.body.length p.body) (hbd : BdPrc p) :
    Calls Try.prog 42 #[.agg #[.string p.name, .slice A1 p.params.length c1, .slice A2 p.body.length c2, .int .i64 p.rows, .int .i64 p.bytes]] w fun e w' => e = .returned (.bool (decide (MayPrc p))) ∧ Below w.heap.size w w' := by
  have hn1 := hC1.2.1
  have hn2 := hC2.2.1
  have HC1 := Aside0.mk hC1
  have HC2 := Aside0.mk hC2
  have HBD := Lib.hid hbd
  have hnz := hbd.1
  clear hC1 hC2 hbd
  go_enter Try.func42, Try.ntmps42
  go_wp2_with fail
  have hg1 : (w.alloc (prcBox p A1 c1 A2 c2)).heap[w.heap.size]? = some (prcBox p A1 c1 A2 c2) := blk_alloc w _
  have hB1 : Below w.heap.size w (w.alloc (prcBox p A1 c1 A2 c2)) := below_alloc (Below.refl _ _) _
  obtain ⟨W1, hW1⟩ : ∃ w1, w1 = w.alloc (prcBox p A1 c1 A2 c2) := ⟨_, rfl⟩
  obtain ⟨g, hg⟩ : ∃ g, g = w.heap.size := ⟨_, rfl⟩
  rw [← hW1] at hg1 hB1
  rw [← hg] at hg1
  rw [← hg]
  change Calls Try.prog 79 _ (w.alloc (prcBox p A1 c1 A2 c2)) _
  rw [← hW1]
  have HB1 := Aside0.mk hB1
  have HG1 := Lib.hid hg1
  have f1 : W1.cell? ⟨g, 1, none⟩ = some (.slice A1 p.params.length c1) := blk_cell hg1 1
  have f2 : W1.cell? ⟨g, 2, none⟩ = some (.slice A2 p.body.length c2) := blk_cell hg1 2
  have f3 : W1.cell? ⟨g, 3, none⟩ = some (.int .i64 p.rows) := blk_cell hg1 3
  have f4 : W1.cell? ⟨g, 4, none⟩ = some (.int .i64 p.bytes) := blk_cell hg1 4
  clear hB1 hg1 hW1 hg
  refine (nameref_any p.name _ (by omega)).mono ?_
  rintro e w1 ⟨rfl, hw1⟩
  obtain rfl := hw1.symm
  clear hw1
  go_wp2_with fail
  refine (in_any p.rows 0 1048576 _).mono ?_
  rintro e w1 ⟨rfl, hw1⟩
  obtain rfl := hw1.symm
  clear hw1
  obtain ⟨b1, e1⟩ : ∃ b, b = decide (0 ≤ p.rows ∧ p.rows ≤ 1048576) := ⟨_, rfl⟩
  rw [← e1]
  have Eb1 := Lib.hid e1
  clear e1
  go_wp2_with fail
  refine (in_any p.bytes 0 1048576 _).mono ?_
  rintro e w1 ⟨rfl, hw1⟩
  obtain rfl := hw1.symm
  clear hw1
  obtain ⟨b2, e1⟩ : ∃ b, b = decide (0 ≤ p.bytes ∧ p.bytes ≤ 1048576) := ⟨_, rfl⟩
  rw [← e1]
  have Eb2 := Lib.hid e1
  clear e1
  by_cases hnm : NameOk p.name
  · rw [decide_eq_true hnm]
    by_cases t1 : 0 ≤ p.rows ∧ p.rows ≤ 1048576
    · obtain rfl : b1 = true := by rw [Eb1.out]; exact decide_eq_true t1
      have T1 := Lib.hid t1
      clear t1
      by_cases t2 : 0 ≤ p.bytes ∧ p.bytes ≤ 1048576
      · obtain rfl : b2 = true := by rw [Eb2.out]; exact decide_eq_true t2
        have T2 := Lib.hid t2
        clear t2
        by_cases t3 : 8 < p.params.length
        · go_wp2_with fail
          go_ret
          exact ⟨ret_bool (decide_eq_false (fun h => by have := h.2.2.2.1; omega)).symm, HB1.out⟩
        · by_cases t4 : p.body.length < 1
          · go_wp2_with fail
            go_ret
            exact ⟨ret_bool (decide_eq_false (fun h => by have := h.2.2.2.2.1; omega)).symm, HB1.out⟩
          · by_cases t5 : 8 < p.body.length
            · go_wp2_with fail
              go_ret
              exact ⟨ret_bool (decide_eq_false (fun h => by have := h.2.2.2.2.2.1; omega)).symm, HB1.out⟩
            · go_wp2_with fail
              clear f1 f2 f3 f4
              go_loopg [6, 7] p.params.length (fun gn v i wr => ∃ (k : Nat), i = .int .i64 k ∧ Aside0 (k + gn = p.params.length ∧ ∀ c ∈ p.params.take k, TypeOk c.type) ∧ Aside0 (Kd.string.R 9 wr W1.heap.size (fun _ => True) v ((p.params.map (·.name)).take k)) ∧ Aside0 (Below W1.heap.size W1 wr))
              case atStart => exact ⟨0, rfl, ⟨by omega, by simp⟩, ⟨Kd.R_nil _ _ _ _ _⟩, ⟨Below.refl _ _⟩⟩
              case round =>
                obtain ⟨k, rfl, ⟨hgn, hty⟩, hR, hB⟩ := hrel
                have HTY := Lib.hid hty
                have HGN := Lib.hid hgn
                clear hty hgn
                have f1 : wr.cell? ⟨g, 1, none⟩ = some (.slice A1 p.params.length c1) := blk_cell (blk_below HG1.out hB.out) 1
                by_cases hk : k < p.params.length
                · obtain ⟨ad, x, rfl, hx, hmem0, hts0, q0, q1⟩ := prm_at HC1.out (Below.refl _ _) k hk
                  have hbw := below_then HB1.out HB1.out.size hB.out
                  have r0 := pw_cell_below hbw q0
                  have Q1 := Aside0.mk q1
                  have hts2 := Lib.hid hts0
                  have hts := Lib.hid (take_map (·.name) _ k x hts0)
                  have hmem := Lib.hid hmem0
                  clear hx hmem0 hts0 hbw q0 q1
                  have p0 : (0 : Int) ≤ k := by omega
                  have p1 : (k : Int) < p.params.length := by omega
                  have hlen : ((p.params.map (·.name)).take k).length ≤ 16 := by rw [List.length_take, List.length_map]; omega
                  have htt : x.type < 1 ∨ 3 < x.type ∨ (1 ≤ x.type ∧ x.type ≤ 3) := by omega
                  rcases htt with ta | tb | ⟨ta, tb⟩
                  · go_wp2_with (at_builtin; refine Kd.R_append Kd.string (w0 := W1) W1.heap.size rfl (.tmp 53) (.tmp 60) 32 9 (.string ByteArray.empty) 16 rfl Try.underlying32 info9 rfl (by decide) (by omega) _ ((p.params.map (·.name)).take k) x.name [.string x.name] (fun _ => True) (fun _ => False) rfl rfl ?aP (fun _ hk => hk.elim) ?aF ?aO ?aB ?aS ?aL ?_; (case aP => exact rfl); (case aF => exact (fun _ _ => trivial)); (case aO => exact hR.out); (case aB => exact hB.out); (case aS => exact hB.out.size); (case aL => omega); intro v1 w2 ho2 hb2 hg2 hat2; have hR3 := Aside0.mk ho2; have hB3 := Aside0.mk hb2; clear ho2 hb2 hg2 hat2; clear r0 f1; have f1 : w2.cell? ⟨g, 1, none⟩ = some (.slice (some ad) p.params.length c1) := blk_cell (blk_below HG1.out hB3.out) 1; have r1 := pw_cell_below (below_then HB1.out HB1.out.size hB3.out) Q1.out)
                    go_ret
                    exact ⟨ret_bool (decide_eq_false (fun h => by have := (h.2.2.2.2.2.2.2.1 x hmem.out).1; omega)).symm, below_then HB1.out HB1.out.size hB3.out⟩
                  · go_wp2_with (at_builtin; refine Kd.R_append Kd.string (w0 := W1) W1.heap.size rfl (.tmp 53) (.tmp 60) 32 9 (.string ByteArray.empty) 16 rfl Try.underlying32 info9 rfl (by decide) (by omega) _ ((p.params.map (·.name)).take k) x.name [.string x.name] (fun _ => True) (fun _ => False) rfl rfl ?aP (fun _ hk => hk.elim) ?aF ?aO ?aB ?aS ?aL ?_; (case aP => exact rfl); (case aF => exact (fun _ _ => trivial)); (case aO => exact hR.out); (case aB => exact hB.out); (case aS => exact hB.out.size); (case aL => omega); intro v1 w2 ho2 hb2 hg2 hat2; have hR3 := Aside0.mk ho2; have hB3 := Aside0.mk hb2; clear ho2 hb2 hg2 hat2; clear r0 f1; have f1 : w2.cell? ⟨g, 1, none⟩ = some (.slice (some ad) p.params.length c1) := blk_cell (blk_below HG1.out hB3.out) 1; have r1 := pw_cell_below (below_then HB1.out HB1.out.size hB3.out) Q1.out)
                    go_ret
                    exact ⟨ret_bool (decide_eq_false (fun h => by have := (h.2.2.2.2.2.2.2.1 x hmem.out).2; omega)).symm, below_then HB1.out HB1.out.size hB3.out⟩
                  · go_wp2_with (at_builtin; refine Kd.R_append Kd.string (w0 := W1) W1.heap.size rfl (.tmp 53) (.tmp 60) 32 9 (.string ByteArray.empty) 16 rfl Try.underlying32 info9 rfl (by decide) (by omega) _ ((p.params.map (·.name)).take k) x.name [.string x.name] (fun _ => True) (fun _ => False) rfl rfl ?aP (fun _ hk => hk.elim) ?aF ?aO ?aB ?aS ?aL ?_; (case aP => exact rfl); (case aF => exact (fun _ _ => trivial)); (case aO => exact hR.out); (case aB => exact hB.out); (case aS => exact hB.out.size); (case aL => omega); intro v1 w2 ho2 hb2 hg2 hat2; have hR3 := Aside0.mk ho2; have hB3 := Aside0.mk hb2; clear ho2 hb2 hg2 hat2; clear r0 f1; have f1 : w2.cell? ⟨g, 1, none⟩ = some (.slice (some ad) p.params.length c1) := blk_cell (blk_below HG1.out hB3.out) 1; have r1 := pw_cell_below (below_then HB1.out HB1.out.size hB3.out) Q1.out)
                    go_roundg (p.params.length - (k + 1))
                    case measure => have := HGN.out; omega
                    case rel => exact ⟨k + 1, by go_num, ⟨by have := HGN.out; omega, fun y hy => by
                      rw [hts2.out, List.mem_append, List.mem_singleton] at hy
                      rcases hy with h | h
                      · exact HTY.out y h
                      · rw [h]; exact ⟨by omega, by omega⟩⟩, by rw [hts.out]; exact hR3, hB3⟩
                · have hxs : (p.params.map (·.name)).take k = p.params.map (·.name) := List.take_of_length_le (by rw [List.length_map]; omega)
                  have hxs2 : p.params.take k = p.params := List.take_of_length_le (by omega)
                  rw [hxs] at hR
                  rw [hxs2] at HTY
                  clear hxs hxs2
                  obtain ⟨ls, hls⟩ : ∃ ls, ls = p.params.map (·.name) := ⟨_, rfl⟩
                  rw [← hls] at hR
                  have HLS := Lib.hid hls
                  clear hls
                  obtain ⟨AL, cL, rfl, hlL, hCL⟩ := Kd.R_reads hR.out
                  have HCL := Aside0.mk hCL
                  clear hCL hlL hR
                  have f2 : wr.cell? ⟨g, 2, none⟩ = some (.slice A2 p.body.length c2) := blk_cell (blk_below HG1.out hB.out) 2
                  go_wp2_with fail
                  go_loop [8] (fun i => ∃ k : Nat, i = .int .i64 k ∧ Aside0 (k ≤ p.body.length ∧ ∀ x ∈ p.body.take k, 1 ≤ x.size ∧ x.size ≤ 1000)) (fun i => p.body.length - (intOf i).toNat)
                  case atStart => exact ⟨0, rfl, ⟨Nat.zero_le _, by simp⟩⟩
                  case round =>
                    obtain ⟨k, rfl, ⟨hk0, hall⟩⟩ := hrel
                    have HALL := Lib.hid hall
                    clear hall
                    by_cases hk : k < p.body.length
                    · obtain ⟨ad, x, rfl, hx, hmem0, hts0, hcell⟩ := str_el HC2.out (below_then HB1.out HB1.out.size hB.out) k hk
                      have hts := Lib.hid hts0
                      have hmem := Lib.hid hmem0
                      clear hts0 hmem0 hx
                      have p0 : (0 : Int) ≤ k := by omega
                      have p1 : (k : Int) < p.body.length := by omega
                      by_cases ta : x.size < 1
                      · go_wp2_with fail
                        go_ret
                        exact ⟨ret_bool (decide_eq_false (fun h => by have := (h.2.2.2.2.2.2.2.2 x hmem.out).1; omega)).symm, below_then HB1.out HB1.out.size hB.out⟩
                      · by_cases tb : 1000 < x.size
                        · go_wp2_with fail
                          go_ret
                          exact ⟨ret_bool (decide_eq_false (fun h => by have := (h.2.2.2.2.2.2.2.2 x hmem.out).2; omega)).symm, below_then HB1.out HB1.out.size hB.out⟩
                        · go_wp2_with fail
                          go_round
                          case rel => exact ⟨k + 1, by go_num, ⟨by omega, fun y hy => by
                            rw [hts.out, List.mem_append, List.mem_singleton] at hy
                            rcases hy with h | h
                            · exact HALL.out y h
                            · rw [h]; omega⟩⟩
                          case measure => simp [intOf]; omega
                    · have hxs : p.body.take k = p.body := List.take_of_length_le (by omega)
                      rw [hxs] at HALL
                      clear hxs f1
                      go_wp2_with fail
                      refine (namesref_any AL ls.length cL ls _ HCL.out HCL.out.2.1 (fun y hy => by rw [HLS.out] at hy; obtain ⟨c, hc, rfl⟩ := List.mem_map.1 hy; exact HBD.out.2.1 c hc)).mono ?_
                      rintro e w2 ⟨rfl, hb2⟩
                      have hB2 : Aside0 (Below w.heap.size w w2) := ⟨below_then (below_then HB1.out HB1.out.size hB.out) (by have := HB1.out.size; have := hB.out.size; omega) hb2⟩
                      clear hb2 f2
                      go_wp2_with fail
                      go_ret
                      refine ⟨ret_bool ?_, hB2.out⟩
                      rw [decide_eq_decide]
                      have := T1.out
                      have := T2.out
                      exact ⟨fun h => ⟨hnm, T1.out, T2.out, by omega, by omega, by omega, by rw [← HLS.out]; exact h, HTY.out, HALL.out⟩, fun h => by rw [HLS.out]; exact h.2.2.2.2.2.2.1⟩
      · obtain rfl : b2 = false := by rw [Eb2.out]; exact decide_eq_false t2
        have T2 := Lib.hid t2
        clear t2
        go_wp2_with fail
        go_ret
        exact ⟨ret_bool (decide_eq_false (fun h => T2.out h.2.2.1)).symm, HB1.out⟩
    · obtain rfl : b1 = false := by rw [Eb1.out]; exact decide_eq_false t1
      have T1 := Lib.hid t1
      clear t1
      go_wp2_with fail
      go_ret
      exact ⟨ret_bool (decide_eq_false (fun h => T1.out h.2.1)).symm, HB1.out⟩
  · rw [decide_eq_false hnm]
    go_wp2_with fail
    go_ret
    exact ⟨ret_bool (decide_eq_false (fun h => hnm h.1)).symm, HB1.out⟩
end Go.Proofs.Ytcmgdieeclninaa

