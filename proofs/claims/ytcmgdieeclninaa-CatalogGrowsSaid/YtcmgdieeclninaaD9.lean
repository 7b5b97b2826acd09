/- Layer 8: elements of slices; the walk of mayProc. -/
import Derived.Test.YtcmgdieeclninaaD8
set_option linter.unusedVariables false
set_option linter.unusedSimpArgs false
namespace Go.Proofs.Ytcmgdieeclninaa
open Go.RowKit Go.Proofs.YtcmgdieeclninaaW.PrintWords
theorem take_map {α β : Type} (f : α → β) (l : List α) (k : Nat) (x : α) (h : l.take (k + 1) = l.take k ++ [x]) : (l.map f).take (k + 1) = (l.map f).take k ++ [f x] := by
  rw [← List.map_take, h, List.map_append, List.map_take]; rfl
theorem col_at {w wr : World} {A : Option Addr} {n : Nat} {xs : List Col} (h : kCol.C w A n xs) (hb : Below w.heap.size w wr) (k : Nat) (hk : k < n) :
    ∃ ad x, A = some ad ∧ xs.getD k default = x ∧ x ∈ xs ∧ xs.take (k + 1) = xs.take k ++ [x] ∧ wr.cell? (ad.add (k * 3)) = some (.string x.name) ∧
      wr.cell? { block := (ad.add (k * 3)).block, off := (ad.add (k * 3)).off + 1 } = some (.int .i64 x.type) ∧ wr.cell? { block := (ad.add (k * 3)).block, off := (ad.add (k * 3)).off + 2 } = some (.bool x.notNull) := by
  obtain ⟨ad, cs, rfl, hlen, hcs, hcell⟩ := C_at h k hk default
  rw [kCol_K] at hcs
  subst hcs
  have hkl : k < xs.length := by rw [h.1]; exact hk
  exact ⟨ad, _, rfl, rfl, getD_mem xs k default hkl, take_snoc xs k default hkl, pw_cell_below hb (hcell 0 _ rfl), pw_cell_below hb (cell_off (j := 0) (hcell 1 _ rfl)), pw_cell_below hb (cell_off (j := 1) (hcell 2 _ rfl))⟩
theorem prm_at {w wr : World} {A : Option Addr} {n : Nat} {xs : List Prm} (h : kPrm.C w A n xs) (hb : Below w.heap.size w wr) (k : Nat) (hk : k < n) :
    ∃ ad x, A = some ad ∧ xs.getD k default = x ∧ x ∈ xs ∧ xs.take (k + 1) = xs.take k ++ [x] ∧ wr.cell? (ad.add (k * 2)) = some (.string x.name) ∧
      wr.cell? { block := (ad.add (k * 2)).block, off := (ad.add (k * 2)).off + 1 } = some (.int .i64 x.type) := by
  obtain ⟨ad, cs, rfl, hlen, hcs, hcell⟩ := C_at h k hk default
  rw [kPrm_K] at hcs
  subst hcs
  have hkl : k < xs.length := by rw [h.1]; exact hk
  exact ⟨ad, _, rfl, rfl, getD_mem xs k default hkl, take_snoc xs k default hkl, pw_cell_below hb (hcell 0 _ rfl), pw_cell_below hb (cell_off (j := 0) (hcell 1 _ rfl))⟩
theorem idx_at {w wr : World} {A : Option Addr} {n : Nat} {xs : List Idx} (h : kIdx.C w A n xs) (hb : Below w.heap.size w wr) (k : Nat) (hk : k < n) :
    ∃ ad x Ax cx, A = some ad ∧ xs.getD k default = x ∧ x ∈ xs ∧ xs.take (k + 1) = xs.take k ++ [x] ∧ wr.cell? (ad.add (k * 3)) = some (.string x.name) ∧
      wr.cell? { block := (ad.add (k * 3)).block, off := (ad.add (k * 3)).off + 1 } = some (.slice Ax x.columns.length cx) ∧ wr.cell? { block := (ad.add (k * 3)).block, off := (ad.add (k * 3)).off + 2 } = some (.bool x.unique) ∧
      x.columns.length ≤ cx ∧ (Kd.int .i64).C w Ax x.columns.length x.columns := by
  obtain ⟨ad, cs, rfl, hlen, hcs, hcell⟩ := C_at h k hk default
  rw [kIdx_K] at hcs
  obtain ⟨v, rfl, Ax, cx, rfl, hlx, hCx⟩ := hcs
  have hkl : k < xs.length := by rw [h.1]; exact hk
  exact ⟨ad, _, Ax, cx, rfl, rfl, getD_mem xs k default hkl, take_snoc xs k default hkl, pw_cell_below hb (hcell 0 _ rfl), pw_cell_below hb (cell_off (j := 0) (hcell 1 _ rfl)), pw_cell_below hb (cell_off (j := 1) (hcell 2 _ rfl)), hlx, hCx⟩
theorem str_el {w wr : World} {A : Option Addr} {n : Nat} {xs : List ByteArray} (h : Kd.string.C w A n xs) (hb : Below w.heap.size w wr) (k : Nat) (hk : k < n) :
    ∃ ad x, A = some ad ∧ xs.getD k ByteArray.empty = x ∧ x ∈ xs ∧ xs.take (k + 1) = xs.take k ++ [x] ∧ wr.cell? (ad.add k) = some (.string x) := by
  obtain ⟨ad, rfl, hcell⟩ := str_at h k hk
  have hkl : k < xs.length := by rw [h.1]; exact hk
  exact ⟨ad, _, rfl, rfl, getD_mem xs k _ hkl, take_snoc xs k _ hkl, pw_cell_below hb hcell⟩
theorem int_el {w wr : World} {A : Option Addr} {n : Nat} {xs : List Int} (h : (Kd.int .i64).C w A n xs) (hb : Below w.heap.size w wr) (k : Nat) (hk : k < n) :
    ∃ ad x, A = some ad ∧ xs.getD k 0 = x ∧ x ∈ xs ∧ xs.take (k + 1) = xs.take k ++ [x] ∧ wr.cell? (ad.add k) = some (.int .i64 x) := by
  obtain ⟨ad, rfl, hcell⟩ := int_at h k hk
  have hkl : k < xs.length := by rw [h.1]; exact hk
  exact ⟨ad, _, rfl, rfl, getD_mem xs k _ hkl, take_snoc xs k _ hkl, pw_cell_below hb hcell⟩
theorem tab_at {w wr : World} {A : Option Addr} {n : Nat} {xs : List Tab} (h : kTab.C w A n xs) (hb : Below w.heap.size w wr) (k : Nat) (hk : k < n) :
    ∃ ad x A1 c1 A2 c2 A3 c3, A = some ad ∧ xs.getD k default = x ∧ x ∈ xs ∧ xs.take (k + 1) = xs.take k ++ [x] ∧ wr.cell? (ad.add (k * 5)) = some (.string x.name) ∧
      wr.cell? { block := (ad.add (k * 5)).block, off := (ad.add (k * 5)).off + 1 } = some (.slice A1 x.cols.length c1) ∧ wr.cell? { block := (ad.add (k * 5)).block, off := (ad.add (k * 5)).off + 2 } = some (.slice A2 x.key.length c2) ∧
      wr.cell? { block := (ad.add (k * 5)).block, off := (ad.add (k * 5)).off + 3 } = some (.int .i64 x.part) ∧ wr.cell? { block := (ad.add (k * 5)).block, off := (ad.add (k * 5)).off + 4 } = some (.slice A3 x.idx.length c3) ∧
      (x.cols.length ≤ c1 ∧ kCol.C w A1 x.cols.length x.cols) ∧ (x.key.length ≤ c2 ∧ (Kd.int .i64).C w A2 x.key.length x.key) ∧ (x.idx.length ≤ c3 ∧ kIdx.C w A3 x.idx.length x.idx) := by
  obtain ⟨ad, cs, rfl, hlen, hcs, hcell⟩ := C_at h k hk default
  rw [kTab_K] at hcs
  obtain ⟨v1, v2, v3, rfl, ⟨A1, c1, rfl, h1⟩, ⟨A2, c2, rfl, h2⟩, ⟨A3, c3, rfl, h3⟩⟩ := hcs
  have hkl : k < xs.length := by rw [h.1]; exact hk
  exact ⟨ad, _, A1, c1, A2, c2, A3, c3, rfl, rfl, getD_mem xs k default hkl, take_snoc xs k default hkl, pw_cell_below hb (hcell 0 _ rfl), pw_cell_below hb (cell_off (j := 0) (hcell 1 _ rfl)), pw_cell_below hb (cell_off (j := 1) (hcell 2 _ rfl)), pw_cell_below hb (cell_off (j := 2) (hcell 3 _ rfl)), pw_cell_below hb (cell_off (j := 3) (hcell 4 _ rfl)), h1, h2, h3⟩
theorem prc_at {w wr : World} {A : Option Addr} {n : Nat} {xs : List Prc} (h : kPrc.C w A n xs) (hb : Below w.heap.size w wr) (k : Nat) (hk : k < n) :
    ∃ ad x A1 c1 A2 c2, A = some ad ∧ xs.getD k default = x ∧ x ∈ xs ∧ xs.take (k + 1) = xs.take k ++ [x] ∧ wr.cell? (ad.add (k * 5)) = some (.string x.name) ∧
      wr.cell? { block := (ad.add (k * 5)).block, off := (ad.add (k * 5)).off + 1 } = some (.slice A1 x.params.length c1) ∧ wr.cell? { block := (ad.add (k * 5)).block, off := (ad.add (k * 5)).off + 2 } = some (.slice A2 x.body.length c2) ∧
      wr.cell? { block := (ad.add (k * 5)).block, off := (ad.add (k * 5)).off + 3 } = some (.int .i64 x.rows) ∧ wr.cell? { block := (ad.add (k * 5)).block, off := (ad.add (k * 5)).off + 4 } = some (.int .i64 x.bytes) ∧
      (x.params.length ≤ c1 ∧ kPrm.C w A1 x.params.length x.params) ∧ (x.body.length ≤ c2 ∧ Kd.string.C w A2 x.body.length x.body) := by
  obtain ⟨ad, cs, rfl, hlen, hcs, hcell⟩ := C_at h k hk default
  rw [kPrc_K] at hcs
  obtain ⟨v1, v2, rfl, ⟨A1, c1, rfl, h1⟩, ⟨A2, c2, rfl, h2⟩⟩ := hcs
  have hkl : k < xs.length := by rw [h.1]; exact hk
  exact ⟨ad, _, A1, c1, A2, c2, rfl, rfl, getD_mem xs k default hkl, take_snoc xs k default hkl, pw_cell_below hb (hcell 0 _ rfl), pw_cell_below hb (cell_off (j := 0) (hcell 1 _ rfl)), pw_cell_below hb (cell_off (j := 1) (hcell 2 _ rfl)), pw_cell_below hb (cell_off (j := 2) (hcell 3 _ rfl)), pw_cell_below hb (cell_off (j := 3) (hcell 4 _ rfl)), h1, h2⟩

/-! ### mayProc -/
def badSrc (s : ByteArray) : Prop := ¬ (1 ≤ s.size ∧ s.size ≤ 1000)
instance (s : ByteArray) : Decidable (badSrc s) := by unfold badSrc; infer_instance
theorem badsrc_any (s : ByteArray) (w : World) : Calls Try.prog 76 #[.string s] w fun e w' => e = .returned (.bool (decide (badSrc s))) ∧ w' = w := by
  go_enter Try.func76, Try.ntmps76
  by_cases h0 : s.size = 0
  · have he := str_nil_true h0
    have H0 := Lib.hid h0
    clear h0
    go_wp2_with fail
    go_ret
    exact ⟨ret_bool (decide_eq_true (show badSrc s from by unfold badSrc; have := H0.out; omega)).symm, rfl⟩
  · have he := str_nil_false (by omega : 0 < s.size)
    by_cases h1 : 1000 < s.size
    · go_wp2_with fail
      go_ret
      exact ⟨ret_iff (by unfold badSrc; simp; omega), rfl⟩
    · go_wp2_with fail
      go_ret
      exact ⟨ret_iff (by unfold badSrc; simp; omega), rfl⟩
set_option maxHeartbeats 1000000 in
theorem index_src (A : Option Addr) (n c : Nat) (xs : List ByteArray) (w : World) (hC0 : Kd.string.C w A n xs) :
    Calls Try.prog 99 #[.slice A n c, .func (.func 76) #[] #[]] w fun e w' => ∃ r : Int, e = .returned (.int .i64 r) ∧ (0 ≤ r ↔ ∃ x ∈ xs, badSrc x) ∧ w' = w := by
  have HC := Aside0.mk hC0
  have HN := Lib.hid hC0.1
  have hn := hC0.2.1
  clear hC0
  go_enter Try.func99, Try.ntmps99
  go_wp2_with fail
  go_loop [8] (fun i => ∃ k : Nat, i = .int .i64 k ∧ Aside0 (k ≤ n ∧ ∀ x ∈ xs.take k, ¬ badSrc x)) (fun i => n - (intOf i).toNat)
  case atStart => exact ⟨0, rfl, ⟨Nat.zero_le _, by simp⟩⟩
  case round =>
    obtain ⟨k, rfl, ⟨hk0, hall⟩⟩ := hrel
    have HALL := Lib.hid hall
    clear hall
    by_cases hk : k < n
    · obtain ⟨ad, x, rfl, hx, hmem0, hts0, hcell⟩ := str_el HC.out (Below.refl _ _) k hk
      have hts := Lib.hid hts0
      have hmem := Lib.hid hmem0
      clear hts0 hmem0 hx
      have p0 : (0 : Int) ≤ k := by omega
      have p1 : (k : Int) < n := by omega
      go_wp2_with fail
      refine (badsrc_any x _).mono ?_
      rintro e w1 ⟨rfl, hw1⟩
      obtain rfl := hw1.symm
      by_cases hE : badSrc x
      · rw [decide_eq_true hE]
        have HE := Lib.hid hE
        clear hE
        go_wp2_with fail
        go_ret
        exact ⟨(k : Int), rfl, ⟨fun _ => ⟨x, hmem.out, HE.out⟩, fun _ => by omega⟩, rfl⟩
      · rw [decide_eq_false hE]
        have HE := Lib.hid hE
        clear hE
        go_wp2_with fail
        go_round
        case rel => exact ⟨k + 1, by go_num, ⟨by omega, fun y hy => by
          rw [hts.out, List.mem_append, List.mem_singleton] at hy
          rcases hy with h | h
          · exact HALL.out y h
          · rw [h]; exact HE.out⟩⟩
        case measure => simp [intOf]; omega
    · have hxs : xs.take k = xs := List.take_of_length_le (by rw [HN.out]; omega)
      rw [hxs] at HALL
      clear hxs
      go_wp2_with fail
      go_ret
      exact ⟨-1, rfl, ⟨fun h => by omega, fun ⟨x, h1, h2⟩ => absurd h2 (HALL.out x h1)⟩, rfl⟩
theorem contsrc_any (A : Option Addr) (n c : Nat) (xs : List ByteArray) (w : World) (hC0 : Kd.string.C w A n xs) :
    Calls Try.prog 75 #[.slice A n c, .func (.func 76) #[] #[]] w fun e w' => e = .returned (.bool (decide (∃ x ∈ xs, badSrc x))) ∧ w' = w := by
  have HC := Aside0.mk hC0
  clear hC0
  go_enter Try.func75, Try.ntmps75
  go_wp2_with fail
  refine (index_src A n c xs _ HC.out).mono ?_
  rintro e w1 ⟨r, rfl, hr, hw1⟩
  obtain rfl := hw1.symm
  have HR := Lib.hid hr
  clear hr
  go_wp2_with fail
  go_ret
  exact ⟨ret_bool (by rw [decide_eq_decide]; exact HR.out), rfl⟩
/-- A procedure's box. -/
def prcBox (p : Prc) (A1 : Option Addr) (c1 : Nat) (A2 : Option Addr) (c2 : Nat) : Obj :=
  .cells #[.string p.name, .slice A1 p.params.length c1, .slice A2 p.body.length c2, .int .i64 p.rows, .int .i64 p.bytes] 34 (0, 0)
set_option maxRecDepth 100000 in
set_option maxHeartbeats 4000000 in
theorem mayPrc_any (p : Prc) (A1 : Option Addr) (c1 : Nat) (A2 : Option Addr) (c2 : Nat) (w : World)
    (hC1 : kPrm.C w A1 p.params.length p.params) (hC2 : Kd.string.C w A2 p.body.length p.body) :
    Calls Try.prog 39 #[.agg #[.string p.name, .slice A1 p.params.length c1, .slice A2 p.body.length c2, .int .i64 p.rows, .int .i64 p.bytes]] w fun e w' => e = .returned (.bool (decide (MayPrc p))) ∧ Below w.heap.size w w' := by
  have hn1 := hC1.2.1
  have hn2 := hC2.2.1
  have HC1 := Aside0.mk hC1
  have HC2 := Aside0.mk hC2
  clear hC1 hC2
  go_enter Try.func39, Try.ntmps39
  go_wp2_with fail
  refine (named_any p.name _).mono ?_
  rintro e w1 ⟨rfl, hb1⟩
  have hg1 : w1.heap[w.heap.size]? = some (prcBox p A1 c1 A2 c2) := blk_below (blk_alloc w _) hb1
  have hB1 : Below w.heap.size w w1 := below_then (below_alloc (Below.refl _ _) _) (by simp) hb1
  obtain ⟨g, hg⟩ : ∃ g, g = w.heap.size := ⟨_, rfl⟩
  rw [← hg] at hg1
  rw [← hg]
  have f1 : w1.cell? ⟨g, 1, none⟩ = some (.slice A1 p.params.length c1) := blk_cell hg1 1
  have f2 : w1.cell? ⟨g, 2, none⟩ = some (.slice A2 p.body.length c2) := blk_cell hg1 2
  have f3 : w1.cell? ⟨g, 3, none⟩ = some (.int .i64 p.rows) := blk_cell hg1 3
  have f4 : w1.cell? ⟨g, 4, none⟩ = some (.int .i64 p.bytes) := blk_cell hg1 4
  have HB1 := Aside0.mk hB1
  have HG1 := Lib.hid hg1
  have HG := Lib.hid hg
  clear hB1 hb1 hg1 hg
  by_cases hnm : NameOk p.name
  · rw [decide_eq_true hnm]
    by_cases t1 : 8 < p.params.length
    · go_wp2_with fail
      go_ret
      exact ⟨ret_bool (decide_eq_false (fun h => by have := h.2.2.2.1; omega)).symm, HB1.out⟩
    · by_cases t2 : p.body.length = 0
      · have he : ((p.body.length : Int) == 0) = true := by rw [beq_iff_eq]; omega
        have T2 := Lib.hid t2
        clear t2
        go_wp2_with fail
        go_ret
        exact ⟨ret_bool (decide_eq_false (fun h => by have := h.2.2.2.2.1; have := T2.out; omega)).symm, HB1.out⟩
      · have he : ((p.body.length : Int) == 0) = false := by rw [beq_eq_false_iff_ne]; omega
        by_cases t3 : 8 < p.body.length
        · go_wp2_with fail
          go_ret
          exact ⟨ret_bool (decide_eq_false (fun h => by have := h.2.2.2.2.2.1; omega)).symm, HB1.out⟩
        · by_cases t4 : p.rows < 0
          · go_wp2_with fail
            go_ret
            exact ⟨ret_bool (decide_eq_false (fun h => by have := h.2.1.1; omega)).symm, HB1.out⟩
          · by_cases t5 : 1048576 < p.rows
            · go_wp2_with fail
              go_ret
              exact ⟨ret_bool (decide_eq_false (fun h => by have := h.2.1.2; omega)).symm, HB1.out⟩
            · by_cases t6 : p.bytes < 0
              · go_wp2_with fail
                go_ret
                exact ⟨ret_bool (decide_eq_false (fun h => by have := h.2.2.1.1; omega)).symm, HB1.out⟩
              · by_cases t7 : 1048576 < p.bytes
                · go_wp2_with fail
                  go_ret
                  exact ⟨ret_bool (decide_eq_false (fun h => by have := h.2.2.1.2; omega)).symm, HB1.out⟩
                · go_wp2_with fail
                  refine (met_any _).mono ?_
                  rintro e w2 ⟨gc, mc, rfl, hs2, hgc, hmc, hb2⟩
                  have hX : Aside0 (w2.heap[g]? = some (prcBox p A1 c1 A2 c2) ∧ MetSt w2 gc mc [] ∧ Below w.heap.size w w2) := ⟨blk_below HG1.out hb2, hs2, below_then HB1.out HB1.out.size hb2⟩
                  have hmd : w.heap.size ≤ mc := by have := HB1.out.size; omega
                  have hne1 : g ≠ mc := by have := blk_lt HG1.out; omega
                  have HNE1 := Lib.hid hne1
                  clear hne1 hs2 hgc hmc hb2 f1 f2 f3 f4 HG1 HB1
                  have f1 : w2.cell? ⟨g, 1, none⟩ = some (.slice A1 p.params.length c1) := blk_cell hX.out.1 1
                  go_wp2_with fail
                  clear f1
                  go_loopg [52] p.params.length (fun gn i wr => ∃ (k : Nat) (l' : List ByteArray), i = .int .i64 k ∧ Aside0 (k + gn = p.params.length ∧ (∀ x ∈ (p.params.map (·.name)).take k, NameOk x) ∧ ((p.params.map (·.name)).take k).Nodup ∧ (∀ c ∈ p.params.take k, TypeOk c.type) ∧ ∀ x, x ∈ l' ↔ x ∈ (p.params.map (·.name)).take k) ∧ Aside0 (wr.heap[g]? = some (prcBox p A1 c1 A2 c2) ∧ MetSt wr gc mc l' ∧ Below w.heap.size w wr))
                  case atStart => exact ⟨0, [], rfl, ⟨by omega, by simp, by simp, by simp, by simp⟩, hX⟩
                  case round =>
                    obtain ⟨k, l', rfl, ⟨hg', hall, hnd, hty, hl'⟩, hM⟩ := hrel
                    clear hX
                    have HALL := Lib.hid hall
                    have HND := Lib.hid hnd
                    have HTY := Lib.hid hty
                    have HL := Lib.hid hl'
                    have HGN := Lib.hid hg'
                    clear hall hnd hty hl' hg'
                    by_cases hk : k < p.params.length
                    · obtain ⟨ad, x, rfl, hx, hmem0, hts0, q0, q1⟩ := prm_at HC1.out hM.out.2.2 k hk
                      have hts2 := Lib.hid hts0
                      have hts := Lib.hid (take_map (·.name) _ k x hts0)
                      have hmem := Lib.hid hmem0
                      have hmem2 := Lib.hid (List.mem_map_of_mem (f := (·.name)) hmem0)
                      clear hx hmem0 hts0
                      have p0 : (0 : Int) ≤ k := by omega
                      have p1 : (k : Int) < p.params.length := by omega
                      go_wp2_with fail
                      obtain ⟨bx, hbx⟩ : ∃ bx, bx = wr.heap.size := ⟨_, rfl⟩
                      obtain ⟨wa, hwa⟩ : ∃ wa, wa = wr.alloc (Obj.cells #[Value.string x.name, Value.int IntKind.i64 x.type] 66) := ⟨_, rfl⟩
                      have hA0 : Below wr.heap.size wr wa := by rw [hwa]; exact below_alloc (Below.refl _ _) _
                      have hA1 : wa.heap[bx]? = some (Obj.cells #[Value.string x.name, Value.int IntKind.i64 x.type] 66) := by rw [hwa, hbx]; exact blk_alloc _ _
                      rw [← hwa, ← hbx]
                      have hMi : MetSt wa gc mc l' := hM.out.2.1.keep (S := fun _ => False) (Mod.of_below hA0) (fun h => h) (fun h => h)
                      have hGa : wa.heap[g]? = some (prcBox p (some ad) c1 A2 c2) := blk_below hM.out.1 hA0
                      have hBa : Below w.heap.size w wa := below_then hM.out.2.2 hM.out.2.2.size hA0
                      have hbm : bx ≠ mc := by have := hM.out.2.1.map.lt; omega
                      refine (metnext_any x.name gc mc l' wa hMi).mono ?_
                      rintro e w4 ⟨rfl, hmod, l2, hs2, hl2⟩
                      have hX4 : w4.heap[bx]? = some (Obj.cells #[Value.string x.name, Value.int IntKind.i64 x.type] 66) := blk_mod hA1 hmod hbm
                      have HALL4 : Aside0 (w4.heap[g]? = some (prcBox p (some ad) c1 A2 c2) ∧ MetSt w4 gc mc l2 ∧ Below w.heap.size w w4) := ⟨blk_mod hGa hmod HNE1.out, hs2, Mod.below hBa hmod hBa.size (fun i hi => by omega)⟩
                      have HL2 := Lib.hid hl2
                      have r1 : w4.cell? ⟨bx, 1, none⟩ = some (.int .i64 x.type) := blk_cell hX4 1
                      clear hs2 hl2 hX4 hmod hbm hMi hGa hBa hA0 hA1 hwa hbx
                      by_cases hno : NameOk x.name ∧ ¬ x.name ∈ l'
                      · rw [decide_eq_true hno]
                        have HNO := Lib.hid hno
                        clear hno
                        go_wp2_with fail
                        refine (typed_any x.type _).mono ?_
                        rintro e w7 ⟨rfl, hw7⟩
                        obtain rfl := hw7.symm
                        by_cases hto : TypeOk x.type
                        · rw [decide_eq_true hto]
                          have HTO := Lib.hid hto
                          clear hto
                          go_wp2_with fail
                          go_roundg (p.params.length - (k + 1))
                          case measure => have := HGN.out; omega
                          case rel => exact ⟨k + 1, l2, by go_num, ⟨by have := HGN.out; omega, fun y hy => by
                            rw [hts.out, List.mem_append, List.mem_singleton] at hy
                            rcases hy with h | h
                            · exact HALL.out y h
                            · rw [h]; exact HNO.out.1, by
                            rw [hts.out, nodup_snoc]
                            exact ⟨HND.out, fun h => HNO.out.2 ((HL.out _).2 h)⟩, fun y hy => by
                            rw [hts2.out, List.mem_append, List.mem_singleton] at hy
                            rcases hy with h | h
                            · exact HTY.out y h
                            · rw [h]; exact HTO.out, fun y => by
                            rw [hts.out, HL2.out, HL.out, List.mem_append, List.mem_singleton, or_comm]⟩, HALL4⟩
                        · rw [decide_eq_false hto]
                          have HTO := Lib.hid hto
                          clear hto
                          go_wp2_with fail
                          go_ret
                          exact ⟨ret_bool (decide_eq_false (fun h => HTO.out (h.2.2.2.2.2.2.2.1 x hmem.out))).symm, HALL4.out.2.2⟩
                      · rw [decide_eq_false hno]
                        have HNO := Lib.hid hno
                        clear hno
                        go_wp2_with fail
                        go_ret
                        refine ⟨ret_bool (decide_eq_false (fun h => HNO.out ⟨h.2.2.2.2.2.2.1.1 _ hmem2.out, fun hin => ?_⟩)).symm, HALL4.out.2.2⟩
                        have h3 := nodup_take _ (k + 1) h.2.2.2.2.2.2.1.2
                        rw [hts.out, nodup_snoc] at h3
                        exact h3.2 ((HL.out _).1 hin)
                    · have hxs : (p.params.map (·.name)).take k = p.params.map (·.name) := List.take_of_length_le (by rw [List.length_map]; omega)
                      have hxs2 : p.params.take k = p.params := List.take_of_length_le (by omega)
                      rw [hxs] at HALL HND
                      rw [hxs2] at HTY
                      clear hxs hxs2 HL
                      have f2 : wr.cell? ⟨g, 2, none⟩ = some (.slice A2 p.body.length c2) := blk_cell hM.out.1 2
                      go_wp2_with fail
                      refine (contsrc_any A2 p.body.length c2 p.body _ (Kd.C_below HC2.out hM.out.2.2)).mono ?_
                      rintro e w7 ⟨rfl, hw7⟩
                      obtain rfl := hw7.symm
                      clear f2
                      by_cases hbs : ∃ x ∈ p.body, badSrc x
                      · rw [decide_eq_true hbs]
                        have HBS := Lib.hid hbs
                        clear hbs
                        go_wp2_with fail
                        go_ret
                        exact ⟨ret_bool (decide_eq_false (fun h => by obtain ⟨x, h1, h2⟩ := HBS.out; exact h2 (h.2.2.2.2.2.2.2.2 x h1))).symm, hM.out.2.2⟩
                      · rw [decide_eq_false hbs]
                        have HBS := Lib.hid hbs
                        clear hbs
                        go_wp2_with fail
                        go_ret
                        exact ⟨ret_bool (decide_eq_true (show MayPrc p from ⟨hnm, ⟨by omega, by omega⟩, ⟨by omega, by omega⟩, by omega, by omega, by omega, ⟨HALL.out, HND.out⟩, HTY.out, fun x hx => Classical.byContradiction (fun hc => HBS.out ⟨x, hx, hc⟩)⟩)).symm, hM.out.2.2⟩
  · rw [decide_eq_false hnm]
    go_wp2_with fail
    go_ret
    exact ⟨ret_bool (decide_eq_false (fun h => hnm h.1)).symm, HB1.out⟩
end Go.Proofs.Ytcmgdieeclninaa
