/- Layer 8: the walk of the reference's MayTable. -/
import Derived.Test.YtcmgdieeclninaaD10
set_option linter.unusedVariables false
set_option linter.unusedSimpArgs false
namespace Go.Proofs.Ytcmgdieeclninaa
open Go.RowKit Go.Proofs.YtcmgdieeclninaaW.PrintWords
set_option maxHeartbeats 2000000 in
theorem placesref_dr (A : Option Addr) (n c : Nat) (xs : List Int) (many : Int) (w : World) (hC0 : (Kd.int .i64).C w A n xs) :
    Calls Try.prog 80 #[.slice A n c, .int .i64 many] w fun e w' => e = .returned (.bool (decide (PlacesOk xs many))) ∧ ∃ m, w' = w.drewN m := by
  have HC := Aside0.mk hC0
  have HN := Lib.hid hC0.1
  clear hC0
  by_cases hn1 : 1 ≤ n
  · by_cases hn8 : n ≤ 8
    · go_enter Try.func80, Try.ntmps80
      go_wp2_with fail
      go_loopg [5] n (fun gn i wr => ∃ k : Nat, i = .int .i64 k ∧ Aside0 (k + gn = n ∧ (∀ x ∈ xs.take k, 0 ≤ x ∧ x < many) ∧ (xs.take k).Nodup) ∧ Drawn0 w wr)
      case atStart => exact ⟨0, rfl, ⟨by omega, by simp, by simp⟩, Drawn0.refl _⟩
      case round =>
        obtain ⟨k, rfl, ⟨hg, hall, hnd⟩, ⟨nq, rfl⟩⟩ := hrel
        have HALL := Lib.hid hall
        have HND := Lib.hid hnd
        have HG := Lib.hid hg
        clear hall hnd hg
        by_cases hk : k < n
        · obtain ⟨ad, rfl, hcell⟩ := int_at HC.out k hk
          have hxk : k < xs.length := by rw [HN.out]; exact hk
          have hts := Lib.hid (take_snoc xs k 0 hxk)
          have hmem := Lib.hid (getD_mem xs k 0 hxk)
          obtain ⟨x, hx⟩ : ∃ x, x = xs.getD k 0 := ⟨_, rfl⟩
          rw [← hx] at hcell hts hmem
          clear hx hxk
          have p0 : (0 : Int) ≤ k := by omega
          have p1 : (k : Int) < n := by omega
          by_cases h0 : x < 0
          · go_wp2_with fail
            go_ret
            exact ⟨ret_bool (decide_eq_false (fun h => by have := (h.2.2.1 x hmem.out).1; omega)).symm, ⟨_, rfl⟩⟩
          · by_cases h1 : many ≤ x
            · go_wp2_with fail
              go_ret
              exact ⟨ret_bool (decide_eq_false (fun h => by have := (h.2.2.1 x hmem.out).2; omega)).symm, ⟨_, rfl⟩⟩
            · go_wp2_with fail
              go_loopg [6] k (fun gn i wr => ∃ j : Nat, i = .int .i64 j ∧ Aside0 (j + gn = k ∧ ¬ x ∈ xs.take j) ∧ Drawn0 w wr)
              case atStart => exact ⟨0, rfl, ⟨by omega, by simp⟩, ⟨⟨_, rfl⟩⟩⟩
              case round =>
                obtain ⟨j, rfl, ⟨hg2, hall2⟩, ⟨nq2, rfl⟩⟩ := hrel
                have HALL2 := Lib.hid hall2
                have HG2 := Lib.hid hg2
                clear hall2 hg2
                by_cases hj : j < k
                · obtain ⟨ad2, had, hcell2⟩ := int_at HC.out j (by omega)
                  cases had
                  have hxj : j < xs.length := by rw [HN.out]; omega
                  have hts2 := Lib.hid (take_snoc xs j 0 hxj)
                  have hmem2 := Lib.hid (getD_mem xs j 0 hxj)
                  have hlt2 : xs.getD j 0 ∈ xs.take k := by
                    rw [List.getD, List.getElem?_eq_getElem hxj, Option.getD_some]
                    exact List.mem_take_iff_getElem.2 ⟨j, by omega, rfl⟩
                  obtain ⟨y, hy⟩ : ∃ y, y = xs.getD j 0 := ⟨_, rfl⟩
                  rw [← hy] at hcell2 hts2 hmem2 hlt2
                  have HLT2 := Lib.hid hlt2
                  clear hy hxj hlt2
                  have q0 : (0 : Int) ≤ j := by omega
                  have q1 : (j : Int) < n := by omega
                  by_cases hE : y = x
                  · have hE2 : (y == x) = true := by rw [beq_iff_eq]; exact hE
                    have HE := Lib.hid hE
                    clear hE
                    go_wp2_with fail
                    go_quiet (fail)
                    go_wp2_with fail
                    go_ret
                    refine ⟨ret_bool (decide_eq_false (fun h => ?_)).symm, (Drawn0.step ⟨⟨_, rfl⟩⟩ _ : Drawn0 w _).out⟩
                    have h3 := nodup_take xs (k + 1) h.2.2.2
                    rw [hts.out, nodup_snoc] at h3
                    exact h3.2 (HE.out ▸ HLT2.out)
                  · have hE2 : (y == x) = false := by rw [beq_eq_false_iff_ne]; exact hE
                    have HE := Lib.hid hE
                    clear hE
                    go_wp2_with fail
                    go_quiet (fail)
                    go_wp2_with fail
                    go_roundg (k - (j + 1))
                    case measure => have := HG2.out; omega
                    case rel => exact ⟨j + 1, by go_num, ⟨by have := HG2.out; omega, by rw [hts2.out, List.mem_append, List.mem_singleton]; rintro (h | h); exact HALL2.out h; exact HE.out h.symm⟩, ⟨⟨_, rfl⟩⟩⟩
                · obtain rfl : j = k := by have := HG2.out; omega
                  go_wp2_with fail
                  go_roundg (n - (j + 1))
                  case measure => have := HG.out; omega
                  case rel => exact ⟨j + 1, by go_num, ⟨by have := HG.out; omega, fun y hy => by
                    rw [hts.out, List.mem_append, List.mem_singleton] at hy
                    rcases hy with h | h
                    · exact HALL.out y h
                    · rw [h]; omega, by rw [hts.out, nodup_snoc]; exact ⟨HND.out, HALL2.out⟩⟩, ⟨⟨_, rfl⟩⟩⟩
        · have hxs : xs.take k = xs := List.take_of_length_le (by rw [HN.out]; omega)
          rw [hxs] at HALL HND
          clear hxs
          go_wp2_with fail
          go_ret
          exact ⟨ret_bool (decide_eq_true (show PlacesOk xs many from ⟨by have := HN.out; omega, by have := HN.out; omega, HALL.out, HND.out⟩)).symm, ⟨_, rfl⟩⟩
    · go_enter Try.func80, Try.ntmps80
      go_wp2_with fail
      go_ret
      exact ⟨ret_bool (decide_eq_false (fun h => by have := h.2.1; have := HN.out; omega)).symm, ⟨0, rfl⟩⟩
  · go_enter Try.func80, Try.ntmps80
    go_wp2_with fail
    go_ret
    exact ⟨ret_bool (decide_eq_false (fun h => by have := h.1; have := HN.out; omega)).symm, ⟨0, rfl⟩⟩
theorem info9 : (Try.prog.info? 9).map (fun i => (i.zero, i.size, i.bytes)) = some (some (.string ByteArray.empty), 1, 16) := by kernel_rfl
/-- Strings whose lengths are in reach. -/
def BdTab (t : Tab) : Prop := t.name.size ≤ 140737488351232 ∧ (∀ c ∈ t.cols, c.name.size ≤ 140737488351232) ∧ ∀ c ∈ t.idx, c.name.size ≤ 140737488351232
def BdPrc (p : Prc) : Prop := p.name.size ≤ 140737488351232 ∧ (∀ c ∈ p.params, c.name.size ≤ 140737488351232) ∧ ∀ s ∈ p.body, s.size ≤ 140737488351232
def BdCat (c : Cat) : Prop := (∀ t ∈ c.tables, BdTab t) ∧ ∀ p ∈ c.procs, BdPrc p
theorem mem_take_lt {α : Type} {l : List α} {x : α} {k : Nat} (h : x ∈ l.take k) : x ∈ l := List.mem_of_mem_take h
set_option maxRecDepth 100000 in
set_option maxHeartbeats 4000000 in
theorem mayTabRef_any (t : Tab) (A1 : Option Addr) (c1 : Nat) (A2 : Option Addr) (c2 : Nat) (A3 : Option Addr) (c3 : Nat) (w : World)
    (hC1 : kCol.C w A1 t.cols.length t.cols) (hC2 : (Kd.int .i64).C w A2 t.key.length t.key) (hC3 : kIdx.C w A3 t.idx.length t.idx) (hbd : BdTab t) :
    Calls Try.prog 41 #[.agg #[.string t.name, .slice A1 t.cols.length c1, .slice A2 t.key.length c2, .int .i64 t.part, .slice A3 t.idx.length c3]] w fun e w' => e = .returned (.bool (decide (MayTab t))) ∧ Below w.heap.size w w' := by
  have hk := hC2.2.1
  have hn1 := hC1.2.1
  have hn3 := hC3.2.1
  have HC1 := Aside0.mk hC1
  have HC2 := Aside0.mk hC2
  have HC3 := Aside0.mk hC3
  have HBD := Lib.hid hbd
  have hnz := hbd.1
  clear hC1 hC2 hC3 hbd
  go_enter Try.func41, Try.ntmps41
  go_wp2_with fail
  have hg1 : (w.alloc (tabBox t A1 c1 A2 c2 A3 c3)).heap[w.heap.size]? = some (tabBox t A1 c1 A2 c2 A3 c3) := blk_alloc w _
  have hB1 : Below w.heap.size w (w.alloc (tabBox t A1 c1 A2 c2 A3 c3)) := below_alloc (Below.refl _ _) _
  obtain ⟨W1, hW1⟩ : ∃ w1, w1 = w.alloc (tabBox t A1 c1 A2 c2 A3 c3) := ⟨_, rfl⟩
  obtain ⟨g, hg⟩ : ∃ g, g = w.heap.size := ⟨_, rfl⟩
  rw [← hW1] at hg1 hB1
  rw [← hg] at hg1
  rw [← hg]
  change Calls Try.prog 79 _ (w.alloc (tabBox t A1 c1 A2 c2 A3 c3)) _
  rw [← hW1]
  have HB1 := Aside0.mk hB1
  have HG1 := Lib.hid hg1
  have f1 : W1.cell? ⟨g, 1, none⟩ = some (.slice A1 t.cols.length c1) := blk_cell hg1 1
  have f4 : W1.cell? ⟨g, 4, none⟩ = some (.slice A3 t.idx.length c3) := blk_cell hg1 4
  clear hB1 hg1 hW1 hg
  refine (nameref_any t.name _ (by omega)).mono ?_
  rintro e w1 ⟨rfl, hw1⟩
  obtain rfl := hw1.symm
  clear hw1
  by_cases hnm : NameOk t.name
  · rw [decide_eq_true hnm]
    by_cases hl0 : t.cols.length < 1
    · go_wp2_with fail
      go_ret
      exact ⟨ret_bool (decide_eq_false (fun h => by have := h.2.1; omega)).symm, HB1.out⟩
    · by_cases hl16 : 16 < t.cols.length
      · go_wp2_with fail
        go_ret
        exact ⟨ret_bool (decide_eq_false (fun h => by have := h.2.2.1; omega)).symm, HB1.out⟩
      · by_cases hi4 : 4 < t.idx.length
        · go_wp2_with fail
          go_ret
          exact ⟨ret_bool (decide_eq_false (fun h => by have := h.2.2.2.1; omega)).symm, HB1.out⟩
        · go_wp2_with fail
          clear f1 f4
          go_loopg [4, 5] t.cols.length (fun gn v i wr => ∃ (k : Nat), i = .int .i64 k ∧ Aside0 (k + gn = t.cols.length ∧ ∀ c ∈ t.cols.take k, TypeOk c.type) ∧ Aside0 (Kd.string.R 9 wr W1.heap.size (fun _ => True) v ((t.cols.map (·.name)).take k)) ∧ Aside0 (Below W1.heap.size W1 wr))
          case atStart => exact ⟨0, rfl, ⟨by omega, by simp⟩, ⟨Kd.R_nil _ _ _ _ _⟩, ⟨Below.refl _ _⟩⟩
          case round =>
            obtain ⟨k, rfl, ⟨hgn, hty⟩, hR, hB⟩ := hrel
            have HTY := Lib.hid hty
            have HGN := Lib.hid hgn
            clear hty hgn
            have f1 : wr.cell? ⟨g, 1, none⟩ = some (.slice A1 t.cols.length c1) := blk_cell (blk_below HG1.out hB.out) 1
            by_cases hk : k < t.cols.length
            · obtain ⟨ad, x, rfl, hx, hmem0, hts0, q0, q1, q2⟩ := col_at HC1.out (Below.refl _ _) k hk
              have hbw := below_then HB1.out HB1.out.size hB.out
              have r0 := pw_cell_below hbw q0
              have Q1 := Aside0.mk q1
              have hts2 := Lib.hid hts0
              have hts := Lib.hid (take_map (·.name) _ k x hts0)
              have hmem := Lib.hid hmem0
              clear hx hmem0 hts0 hbw q0 q1 q2
              have p0 : (0 : Int) ≤ k := by omega
              have p1 : (k : Int) < t.cols.length := by omega
              have hlen : ((t.cols.map (·.name)).take k).length ≤ 16 := by rw [List.length_take, List.length_map]; omega
              have htt : x.type < 1 ∨ 3 < x.type ∨ (1 ≤ x.type ∧ x.type ≤ 3) := by omega
              rcases htt with ta | tb | ⟨ta, tb⟩
              · go_wp2_with (at_builtin; refine Kd.R_append Kd.string (w0 := W1) W1.heap.size rfl (.tmp 44) (.tmp 51) 32 9 (.string ByteArray.empty) 16 rfl Try.underlying32 info9 rfl (by decide) (by omega) _ ((t.cols.map (·.name)).take k) x.name [.string x.name] (fun _ => True) (fun _ => False) rfl rfl ?aP (fun _ hk => hk.elim) ?aF ?aO ?aB ?aS ?aL ?_; (case aP => exact rfl); (case aF => exact (fun _ _ => trivial)); (case aO => exact hR.out); (case aB => exact hB.out); (case aS => exact hB.out.size); (case aL => omega); intro v1 w2 ho2 hb2 hg2 hat2; have hR3 := Aside0.mk ho2; have hB3 := Aside0.mk hb2; clear ho2 hb2 hg2 hat2 r0 f1; have f1 : w2.cell? ⟨g, 1, none⟩ = some (.slice (some ad) t.cols.length c1) := blk_cell (blk_below HG1.out hB3.out) 1; have r1 := pw_cell_below (below_then HB1.out HB1.out.size hB3.out) Q1.out)
                go_ret
                exact ⟨ret_bool (decide_eq_false (fun h => by have := (h.2.2.2.2.2.1 x hmem.out).1; omega)).symm, below_then HB1.out HB1.out.size hB3.out⟩
              · go_wp2_with (at_builtin; refine Kd.R_append Kd.string (w0 := W1) W1.heap.size rfl (.tmp 44) (.tmp 51) 32 9 (.string ByteArray.empty) 16 rfl Try.underlying32 info9 rfl (by decide) (by omega) _ ((t.cols.map (·.name)).take k) x.name [.string x.name] (fun _ => True) (fun _ => False) rfl rfl ?aP (fun _ hk => hk.elim) ?aF ?aO ?aB ?aS ?aL ?_; (case aP => exact rfl); (case aF => exact (fun _ _ => trivial)); (case aO => exact hR.out); (case aB => exact hB.out); (case aS => exact hB.out.size); (case aL => omega); intro v1 w2 ho2 hb2 hg2 hat2; have hR3 := Aside0.mk ho2; have hB3 := Aside0.mk hb2; clear ho2 hb2 hg2 hat2 r0 f1; have f1 : w2.cell? ⟨g, 1, none⟩ = some (.slice (some ad) t.cols.length c1) := blk_cell (blk_below HG1.out hB3.out) 1; have r1 := pw_cell_below (below_then HB1.out HB1.out.size hB3.out) Q1.out)
                go_ret
                exact ⟨ret_bool (decide_eq_false (fun h => by have := (h.2.2.2.2.2.1 x hmem.out).2; omega)).symm, below_then HB1.out HB1.out.size hB3.out⟩
              · go_wp2_with (at_builtin; refine Kd.R_append Kd.string (w0 := W1) W1.heap.size rfl (.tmp 44) (.tmp 51) 32 9 (.string ByteArray.empty) 16 rfl Try.underlying32 info9 rfl (by decide) (by omega) _ ((t.cols.map (·.name)).take k) x.name [.string x.name] (fun _ => True) (fun _ => False) rfl rfl ?aP (fun _ hk => hk.elim) ?aF ?aO ?aB ?aS ?aL ?_; (case aP => exact rfl); (case aF => exact (fun _ _ => trivial)); (case aO => exact hR.out); (case aB => exact hB.out); (case aS => exact hB.out.size); (case aL => omega); intro v1 w2 ho2 hb2 hg2 hat2; have hR3 := Aside0.mk ho2; have hB3 := Aside0.mk hb2; clear ho2 hb2 hg2 hat2 r0 f1; have f1 : w2.cell? ⟨g, 1, none⟩ = some (.slice (some ad) t.cols.length c1) := blk_cell (blk_below HG1.out hB3.out) 1; have r1 := pw_cell_below (below_then HB1.out HB1.out.size hB3.out) Q1.out)
                go_roundg (t.cols.length - (k + 1))
                case measure => have := HGN.out; omega
                case rel => exact ⟨k + 1, by go_num, ⟨by have := HGN.out; omega, fun y hy => by
                  rw [hts2.out, List.mem_append, List.mem_singleton] at hy
                  rcases hy with h | h
                  · exact HTY.out y h
                  · rw [h]; exact ⟨by omega, by omega⟩⟩, by rw [hts.out]; exact hR3, hB3⟩
            · have hxs : (t.cols.map (·.name)).take k = t.cols.map (·.name) := List.take_of_length_le (by rw [List.length_map]; omega)
              have hxs2 : t.cols.take k = t.cols := List.take_of_length_le (by omega)
              rw [hxs] at hR
              rw [hxs2] at HTY
              clear hxs hxs2
              obtain ⟨ls, hls⟩ : ∃ ls, ls = t.cols.map (·.name) := ⟨_, rfl⟩
              rw [← hls] at hR
              have HLS := Lib.hid hls
              clear hls
              obtain ⟨AL, cL, rfl, hlL, hCL⟩ := Kd.R_reads hR.out
              have HCL := Aside0.mk hCL
              clear hCL hlL hR
              go_wp2_with fail
              refine (namesref_any AL ls.length cL ls _ HCL.out HCL.out.2.1 (fun y hy => by rw [HLS.out] at hy; obtain ⟨c, hc, rfl⟩ := List.mem_map.1 hy; exact HBD.out.2.1 c hc)).mono ?_
              rintro e w2 ⟨rfl, hb2⟩
              have hB2 : Aside0 (Below W1.heap.size W1 w2) := ⟨below_then hB.out hB.out.size hb2⟩
              clear hB hb2 HCL f1
              have f1 : w2.cell? ⟨g, 1, none⟩ = some (.slice A1 t.cols.length c1) := blk_cell (blk_below HG1.out hB2.out) 1
              have f2 : w2.cell? ⟨g, 2, none⟩ = some (.slice A2 t.key.length c2) := blk_cell (blk_below HG1.out hB2.out) 2
              go_wp2_with fail
              refine (placesref_dr A2 t.key.length c2 t.key t.cols.length _ (Kd.C_below HC2.out (below_then HB1.out HB1.out.size hB2.out))).mono ?_
              rintro e w3 ⟨rfl, m3, hw3⟩
              have hB3 : Aside0 (Below W1.heap.size W1 w3) := ⟨by rw [hw3]; exact pw_below_drewN hB2.out _⟩
              clear hw3 hB2 f1 f2
              clear w2
              by_cases hno : NamesOk ls
              · rw [decide_eq_true hno]
                have HNO := Lib.hid hno
                clear hno
                by_cases hpk : PlacesOk t.key t.cols.length
                · rw [decide_eq_true hpk]
                  have HPK := Lib.hid hpk
                  clear hpk
                  go_wp2_with fail
                  have hBW : Below w.heap.size w w3 := below_then HB1.out HB1.out.size hB3.out
                  have HBW := Aside0.mk hBW
                  have HC2W := Aside0.mk (Kd.C_below HC2.out hBW)
                  have HC1W := Aside0.mk (Kd.C_below HC1.out hBW)
                  have f1 : w3.cell? ⟨g, 1, none⟩ = some (.slice A1 t.cols.length c1) := blk_cell (blk_below HG1.out hB3.out) 1
                  have f2 : w3.cell? ⟨g, 2, none⟩ = some (.slice A2 t.key.length c2) := blk_cell (blk_below HG1.out hB3.out) 2
                  have f3 : w3.cell? ⟨g, 3, none⟩ = some (.int .i64 t.part) := blk_cell (blk_below HG1.out hB3.out) 3
                  clear hBW HC2 HC1
                  go_loopg [8, 9] t.key.length (fun gn b i wr => ∃ (k : Nat), i = .int .i64 k ∧ b = .bool (decide (t.part ∈ t.key.take k)) ∧ Aside0 (k + gn = t.key.length ∧ ∀ x ∈ t.key.take k, (t.cols.getD x.toNat default).notNull = true) ∧ Drawn0 w3 wr)
                  case atStart => exact ⟨0, rfl, by simp, ⟨by omega, by simp⟩, Drawn0.refl _⟩
                  case round =>
                    obtain ⟨k, rfl, rfl, ⟨hgn, hnn⟩, ⟨nq, rfl⟩⟩ := hrel
                    have HGN := Lib.hid hgn
                    have HNN := Lib.hid hnn
                    clear hgn hnn
                    by_cases hk : k < t.key.length
                    · obtain ⟨ad, y, rfl, hy, hmem0, hts0, q0⟩ := int_el HC2W.out (Below.refl _ _) k hk
                      have hts := Lib.hid hts0
                      have hmem := Lib.hid hmem0
                      have hy0 : 0 ≤ y := (HPK.out.2.2.1 y hmem0).1
                      have hy1 : y < t.cols.length := (HPK.out.2.2.1 y hmem0).2
                      clear hy hts0 hmem0
                      obtain ⟨z, rfl⟩ := Int.eq_ofNat_of_zero_le hy0
                      obtain ⟨ad2, x, rfl, hx, hxm, hxt, x0, x1, x2⟩ := col_at HC1W.out (Below.refl _ _) z (by omega)
                      have HX := Lib.hid hx
                      clear hx hxm hxt x0 x1
                      have p0 : (0 : Int) ≤ k := by omega
                      have p1 : (k : Int) < t.key.length := by omega
                      cases hnn : x.notNull with
                      | true =>
                        rw [hnn] at x2
                        have HN2 := Lib.hid hnn
                        clear hnn
                        by_cases hE : (z : Int) = t.part
                        · have hE2 : ((z : Int) == t.part) = true := by rw [beq_iff_eq]; exact hE
                          have HE := Lib.hid hE
                          clear hE
                          go_wp2_with fail
                          go_quiet (fail)
                          go_wp2_with fail
                          go_quiet (fail)
                          go_wp2_with fail
                          go_roundg (t.key.length - (k + 1))
                          case measure => have := HGN.out; omega
                          case rel => exact ⟨k + 1, by go_num, by rw [hts.out, decide_eq_true]; rw [List.mem_append, List.mem_singleton]; exact .inr HE.out.symm, ⟨by have := HGN.out; omega, fun y hy => by
                            rw [hts.out, List.mem_append, List.mem_singleton] at hy
                            rcases hy with h | h
                            · exact HNN.out y h
                            · rw [h]; show (t.cols.getD z default).notNull = true; rw [HX.out]; exact HN2.out⟩, ⟨⟨_, rfl⟩⟩⟩
                        · have hE2 : ((z : Int) == t.part) = false := by rw [beq_eq_false_iff_ne]; exact hE
                          have HE := Lib.hid hE
                          clear hE
                          go_wp2_with fail
                          go_quiet (fail)
                          go_wp2_with fail
                          go_quiet (fail)
                          go_wp2_with fail
                          go_roundg (t.key.length - (k + 1))
                          case measure => have := HGN.out; omega
                          case rel => exact ⟨k + 1, by go_num, by
                            rw [hts.out, Value.bool.injEq, decide_eq_decide, List.mem_append, List.mem_singleton]
                            exact ⟨fun h => .inl h, fun h => h.resolve_right (fun h => HE.out h.symm)⟩, ⟨by have := HGN.out; omega, fun y hy => by
                            rw [hts.out, List.mem_append, List.mem_singleton] at hy
                            rcases hy with h | h
                            · exact HNN.out y h
                            · rw [h]; show (t.cols.getD z default).notNull = true; rw [HX.out]; exact HN2.out⟩, ⟨⟨_, rfl⟩⟩⟩
                      | false =>
                        rw [hnn] at x2
                        have HN2 := Lib.hid hnn
                        clear hnn
                        go_wp2_with fail
                        go_quiet (fail)
                        go_wp2_with fail
                        go_ret
                        exact ⟨ret_bool (decide_eq_false (fun h => by
                          have h1 := h.2.2.2.2.2.2.2.1 _ hmem.out
                          have h3 : (t.cols.getD z default).notNull = true := h1
                          rw [HX.out, HN2.out] at h3
                          cases h3)).symm, pw_below_drewN (pw_below_drewN HBW.out _) _⟩
                    · have hxs : t.key.take k = t.key := List.take_of_length_le (by omega)
                      rw [hxs] at HNN
                      rw [hxs]
                      clear hxs
                      go_wp2_with fail
                      have hBk : Below W1.heap.size W1 (w3.drewN nq) := pw_below_drewN hB3.out _
                      obtain ⟨W4, hW4⟩ : ∃ W4, W4 = w3.drewN nq := ⟨_, rfl⟩
                      rw [← hW4] at hBk
                      rw [← hW4]
                      have HB4 := Aside0.mk hBk
                      clear hBk hW4 f1 f2 f3 HC1W HC2W
                      go_loopg [10, 11] t.idx.length (fun gn v i wr => ∃ (k : Nat), i = .int .i64 k ∧ Aside0 (k + gn = t.idx.length ∧ ∀ c ∈ t.idx.take k, PlacesOk c.columns t.cols.length) ∧ Aside0 (Kd.string.R 9 wr W1.heap.size (fun _ => True) v ((t.idx.map (·.name)).take k)) ∧ Aside0 (Below W1.heap.size W1 wr))
                      case atStart => exact ⟨0, rfl, ⟨by omega, by simp⟩, ⟨Kd.R_nil _ _ _ _ _⟩, HB4⟩
                      case round =>
                        obtain ⟨k, rfl, ⟨hgn, hty⟩, hR, hB⟩ := hrel
                        have HPL := Lib.hid hty
                        have HGN := Lib.hid hgn
                        clear hty hgn
                        have f4 : wr.cell? ⟨g, 4, none⟩ = some (.slice A3 t.idx.length c3) := blk_cell (blk_below HG1.out hB.out) 4
                        have f1 : wr.cell? ⟨g, 1, none⟩ = some (.slice A1 t.cols.length c1) := blk_cell (blk_below HG1.out hB.out) 1
                        by_cases hk : k < t.idx.length
                        · have hbw := below_then HB1.out HB1.out.size hB.out
                          obtain ⟨ad, x, Ax, cx, rfl, hx, hmem0, hts0, r0, r1, r2, hlx, hCx⟩ := idx_at HC3.out hbw k hk
                          have HCX := Aside0.mk (Kd.C_below hCx hbw)
                          have hts2 := Lib.hid hts0
                          have hts := Lib.hid (take_map (·.name) _ k x hts0)
                          have hmem := Lib.hid hmem0
                          clear hx hmem0 hts0 hCx hbw r2
                          have p0 : (0 : Int) ≤ k := by omega
                          have p1 : (k : Int) < t.idx.length := by omega
                          have hlen : ((t.idx.map (·.name)).take k).length ≤ 16 := by rw [List.length_take, List.length_map]; omega
                          by_cases hpx : PlacesOk x.columns t.cols.length
                          · have hq := fun (u : World) (hu : Below wr.heap.size wr u) => placesref_dr Ax x.columns.length cx x.columns t.cols.length u (Kd.C_below HCX.out hu)
                            rw [decide_eq_true hpx] at hq
                            have HQ := Aside0.mk hq
                            have HPX := Lib.hid hpx
                            clear hq hpx
                            go_wp2_with fail
                            go_quiet ((go_at_call 80; refine Calls.quiet_of (HQ.out _ ?_); first | exact Below.refl _ _ | exact pw_below_drewN (Below.refl _ _) _))
                            go_wp2_with (at_builtin; refine Kd.R_append Kd.string (w0 := W1) W1.heap.size rfl (.tmp 128) (.tmp 135) 32 9 (.string ByteArray.empty) 16 rfl Try.underlying32 info9 rfl (by decide) (by omega) _ ((t.idx.map (·.name)).take k) x.name [.string x.name] (fun _ => True) (fun _ => False) rfl rfl ?aP (fun _ hk => hk.elim) ?aF ?aO ?aB ?aS ?aL ?_; (case aP => exact rfl); (case aF => exact (fun _ _ => trivial)); (case aO => exact Kd.R_drewN hR.out _); (case aB => exact pw_below_drewN hB.out _); (case aS => exact hB.out.size); (case aL => omega); intro v1 w2 ho2 hb2 hg2 hat2; have hR3 := Aside0.mk ho2; have hB3 := Aside0.mk hb2; clear ho2 hb2 hg2 hat2 r0 f4)
                            go_roundg (t.idx.length - (k + 1))
                            case measure => have := HGN.out; omega
                            case rel => exact ⟨k + 1, by go_num, ⟨by have := HGN.out; omega, fun y hy => by
                              rw [hts2.out, List.mem_append, List.mem_singleton] at hy
                              rcases hy with h | h
                              · exact HPL.out y h
                              · rw [h]; exact HPX.out⟩, by rw [hts.out]; exact hR3, hB3⟩
                          · have hq := fun (u : World) (hu : Below wr.heap.size wr u) => placesref_dr Ax x.columns.length cx x.columns t.cols.length u (Kd.C_below HCX.out hu)
                            rw [decide_eq_false hpx] at hq
                            have HQ := Aside0.mk hq
                            have HPX := Lib.hid hpx
                            clear hq hpx
                            go_wp2_with fail
                            go_quiet ((go_at_call 80; refine Calls.quiet_of (HQ.out _ ?_); first | exact Below.refl _ _ | exact pw_below_drewN (Below.refl _ _) _))
                            go_wp2_with fail
                            go_ret
                            exact ⟨ret_bool (decide_eq_false (fun h => HPX.out (h.2.2.2.2.2.2.2.2.2.1 x hmem.out))).symm, below_then HB1.out HB1.out.size (pw_below_drewN hB.out _)⟩
                        · have hxs : (t.idx.map (·.name)).take k = t.idx.map (·.name) := List.take_of_length_le (by rw [List.length_map]; omega)
                          have hxs2 : t.idx.take k = t.idx := List.take_of_length_le (by omega)
                          rw [hxs] at hR
                          rw [hxs2] at HPL
                          clear hxs hxs2
                          obtain ⟨li, hli⟩ : ∃ ls, ls = t.idx.map (·.name) := ⟨_, rfl⟩
                          rw [← hli] at hR
                          have HLI := Lib.hid hli
                          clear hli
                          obtain ⟨AL, cL, rfl, hlL, hCL⟩ := Kd.R_reads hR.out
                          have HCL := Aside0.mk hCL
                          clear hCL hlL hR
                          go_wp2_with fail
                          refine (namesref_any AL li.length cL li _ HCL.out HCL.out.2.1 (fun y hy => by rw [HLI.out] at hy; obtain ⟨c, hc, rfl⟩ := List.mem_map.1 hy; exact HBD.out.2.2 c hc)).mono ?_
                          rintro e w5 ⟨rfl, hb5⟩
                          have hB5 : Aside0 (Below w.heap.size w w5) := ⟨below_then (below_then HB1.out HB1.out.size hB.out) (by have := HB1.out.size; have := hB.out.size; omega) hb5⟩
                          clear hb5 f1 f4
                          by_cases hpt : t.part ∈ t.key
                          · rw [decide_eq_true hpt]
                            by_cases hni : NamesOk li
                            · rw [decide_eq_true hni]
                              have HPT := Lib.hid hpt
                              have HNI := Lib.hid hni
                              clear hpt hni
                              go_wp2_with fail
                              go_ret
                              exact ⟨ret_bool (decide_eq_true (show MayTab t from ⟨hnm, by omega, by omega, by omega, by rw [← HLS.out]; exact HNO.out, HTY.out, HPK.out, HNN.out, HPT.out, HPL.out, by rw [← HLI.out]; exact HNI.out⟩)).symm, hB5.out⟩
                            · rw [decide_eq_false hni]
                              have HPT := Lib.hid hpt
                              have HNI := Lib.hid hni
                              clear hpt hni
                              go_wp2_with fail
                              go_ret
                              exact ⟨ret_bool (decide_eq_false (fun h => HNI.out (by rw [HLI.out]; exact h.2.2.2.2.2.2.2.2.2.2))).symm, hB5.out⟩
                          · rw [decide_eq_false hpt]
                            have HPT := Lib.hid hpt
                            clear hpt
                            go_wp2_with fail
                            go_ret
                            exact ⟨ret_bool (decide_eq_false (fun h => HPT.out h.2.2.2.2.2.2.2.2.1)).symm, hB5.out⟩
                · rw [decide_eq_false hpk]
                  have HPK := Lib.hid hpk
                  clear hpk
                  go_wp2_with fail
                  go_ret
                  exact ⟨ret_bool (decide_eq_false (fun h => HPK.out h.2.2.2.2.2.2.1)).symm, below_then HB1.out HB1.out.size hB3.out⟩
              · rw [decide_eq_false hno]
                have HNO := Lib.hid hno
                clear hno
                go_wp2_with fail
                go_ret
                exact ⟨ret_bool (decide_eq_false (fun h => HNO.out (by rw [HLS.out]; exact h.2.2.2.2.1))).symm, below_then HB1.out HB1.out.size hB3.out⟩
  · rw [decide_eq_false hnm]
    go_wp2_with fail
    go_ret
    exact ⟨ret_bool (decide_eq_false (fun h => hnm h.1)).symm, HB1.out⟩
end Go.Proofs.Ytcmgdieeclninaa
