/- Layer 8: the walks of Table, Proc and Column, and of the reference's. -/
import Derived.Test.YtcmgdieeclninaaD13
set_option linter.unusedVariables false
set_option linter.unusedSimpArgs false
namespace Go.Proofs.Ytcmgdieeclninaa
open Go.RowKit Go.Proofs.YtcmgdieeclninaaW.PrintWords
/-- Where a text lies in a list; -1: nowhere. -/
def posF (l : List ByteArray) (x : ByteArray) : Int := if x ∈ l then (l.idxOf x : Int) else -1
theorem posF_none {l : List ByteArray} {x : ByteArray} (h : ¬ x ∈ l) : posF l x = -1 := if_neg h
theorem posF_at {l : List ByteArray} {x : ByteArray} {k : Nat} (h : l.take (k + 1) = l.take k ++ [x]) (hn : ¬ x ∈ l.take k) (hk : k < l.length) : posF l x = k := by
  have hl : l = l.take k ++ ([x] ++ l.drop (k + 1)) := by rw [← List.append_assoc, ← h, List.take_append_drop]
  have hm : x ∈ l := by rw [hl]; simp
  have hi : l.idxOf x = k := by
    rw [hl, List.idxOf_append, if_neg hn, List.cons_append, List.idxOf_cons_self, List.length_take]
    omega
  rw [posF, if_pos hm, hi]
theorem posF_range (l : List ByteArray) (x : ByteArray) : posF l x = -1 ∨ (0 ≤ posF l x ∧ posF l x < l.length) := by
  unfold posF
  split
  · rename_i h
    have := List.idxOf_lt_length_of_mem h
    right; omega
  · left; rfl
/-- What found makes of a place. -/
def foundV (r : Int) : Value × Value := if r < 0 then (.int .i64 0, .int .i64 82) else (.int .i64 r, .int .i64 0)
theorem found_any (r : Int) (w : World) : Calls Try.prog 53 #[.int .i64 r] w fun e w' => e = .returned (.tuple #[(foundV r).1, (foundV r).2]) ∧ w' = w := by
  go_enter Try.func53, Try.ntmps53
  by_cases h : r < 0
  · go_wp2_with fail
    go_ret2
    exact ⟨by unfold foundV; rw [if_pos h]; rfl, rfl⟩
  · go_wp2_with fail
    go_ret2
    exact ⟨by unfold foundV; rw [if_neg (by omega)]; rfl, rfl⟩
theorem take_not_mem {l : List ByteArray} {k : Nat} {x y : ByteArray} (h : l.take (k + 1) = l.take k ++ [x]) (hn : ¬ y ∈ l.take k) (hx : ¬ x = y) : ¬ y ∈ l.take (k + 1) := by
  rw [h, List.mem_append, List.mem_singleton]
  rintro (h | h)
  · exact hn h
  · exact hx h.symm
theorem cloTable_any (x : Tab) (B1 : Option Addr) (d1 : Nat) (B2 : Option Addr) (d2 : Nat) (B3 : Option Addr) (d3 : Nat) (nm : ByteArray) (gn : Nat) (w : World) (hc : w.cell? ⟨gn, 0, none⟩ = some (.string nm)) :
    Calls Try.prog 55 #[.agg #[.string x.name, .slice B1 x.cols.length d1, .slice B2 x.key.length d2, .int .i64 x.part, .slice B3 x.idx.length d3], .pointer (some ⟨gn, 0, none⟩)] w fun e w' => e = .returned (.bool (decide (x.name = nm))) ∧ Below w.heap.size w w' := by
  have hc2 : (w.alloc (Obj.cells #[.string x.name, .slice B1 x.cols.length d1, .slice B2 x.key.length d2, .int .i64 x.part, .slice B3 x.idx.length d3] 30)).cell? ⟨gn, 0, none⟩ = some (.string nm) := pw_cell_below (below_alloc (Below.refl _ _) _) hc
  go_enter Try.func55, Try.ntmps55
  by_cases h : x.name = nm
  · have he := str_eq_true h
    have H := Lib.hid h
    clear h
    go_wp2_with fail
    go_ret
    exact ⟨ret_bool (decide_eq_true H.out).symm, below_alloc (Below.refl _ _) _⟩
  · have he := str_eq_false h
    have H := Lib.hid h
    clear h
    go_wp2_with fail
    go_ret
    exact ⟨ret_bool (decide_eq_false H.out).symm, below_alloc (Below.refl _ _) _⟩
set_option maxHeartbeats 1000000 in
theorem idxTable_any (A : Option Addr) (n c : Nat) (xs : List Tab) (nm : ByteArray) (gn : Nat) (w : World) (hC0 : kTab.C w A n xs) (hc : w.cell? ⟨gn, 0, none⟩ = some (.string nm)) :
    Calls Try.prog 54 #[.slice A n c, .func (.func 55) #[] #[.pointer (some ⟨gn, 0, none⟩)]] w fun e w' => e = .returned (.int .i64 (posF (xs.map (·.name)) nm)) ∧ Below w.heap.size w w' := by
  have HC := Aside0.mk hC0
  have HN := Lib.hid hC0.1
  have hn := hC0.2.1
  have HCN := Lib.hid hc
  clear hC0 hc
  go_enter Try.func54, Try.ntmps54
  go_wp2_with fail
  go_loopg [8] n (fun gn i wr => ∃ k : Nat, i = .int .i64 k ∧ Aside0 (k + gn = n ∧ ¬ nm ∈ (xs.map (·.name)).take k) ∧ Aside0 (Below w.heap.size w wr))
  case atStart => exact ⟨0, rfl, ⟨by omega, by simp⟩, ⟨Below.refl _ _⟩⟩
  case round =>
    obtain ⟨k, rfl, ⟨hg, hall⟩, hB⟩ := hrel
    have HALL := Lib.hid hall
    have HG := Lib.hid hg
    clear hall hg
    by_cases hk : k < n
    · obtain ⟨ad, x, B1, d1, B2, d2, B3, d3, rfl, hx, hmem0, hts0, q0, q1, q2, q3, q4, hc1, hc2, hc3⟩ := tab_at HC.out hB.out k hk
      have hts := Lib.hid (take_map (·.name) _ k x hts0)
      have hkl : k < (xs.map (·.name)).length := by rw [List.length_map, HN.out]; exact hk
      have HKL := Lib.hid hkl
      clear hts0 hmem0 hx hc1 hc2 hc3 hkl
      have p0 : (0 : Int) ≤ k := by omega
      have p1 : (k : Int) < n := by omega
      go_wp2_with fail
      refine (cloTable_any x B1 d1 B2 d2 B3 d3 nm gn _ (pw_cell_below hB.out HCN.out)).mono ?_
      rintro e w1 ⟨rfl, hb1⟩
      have hB1 := Aside0.mk (below_then hB.out hB.out.size hb1)
      clear hb1 hB q0 q1 q2 q3 q4
      by_cases hE : x.name = nm
      · rw [decide_eq_true hE]
        have HE := Lib.hid hE
        clear hE
        go_wp2_with fail
        go_ret
        refine ⟨?_, hB1.out⟩
        have h1 := hts.out
        rw [HE.out] at h1
        rw [posF_at h1 HALL.out HKL.out]; rfl
      · rw [decide_eq_false hE]
        have HE := Lib.hid hE
        clear hE
        go_wp2_with fail
        go_roundg (n - (k + 1))
        case measure => have := HG.out; omega
        case rel => exact ⟨k + 1, by go_num, ⟨by have := HG.out; omega, take_not_mem hts.out HALL.out HE.out⟩, hB1⟩
    · have hxs : (xs.map (·.name)).take k = xs.map (·.name) := List.take_of_length_le (by rw [List.length_map, HN.out]; omega)
      rw [hxs] at HALL
      clear hxs
      go_wp2_with fail
      go_ret
      exact ⟨by rw [posF_none HALL.out]; rfl, hB.out⟩
set_option maxHeartbeats 1000000 in
theorem findTable_any (A1 : Option Addr) (n1 c1 : Nat) (A2 : Option Addr) (n2 c2 : Nat) (xs : List Tab) (nm : ByteArray) (w : World) (hC0 : kTab.C w A1 n1 xs) :
    Calls Try.prog 25 #[.agg #[.slice A1 n1 c1, .slice A2 n2 c2], .string nm] w fun e w' => e = .returned (.tuple #[(foundV (posF (xs.map (·.name)) nm)).1, (foundV (posF (xs.map (·.name)) nm)).2]) ∧ Below w.heap.size w w' := by
  have HC := Aside0.mk hC0
  clear hC0
  go_enter Try.func25, Try.ntmps25
  go_wp2_with fail
  obtain ⟨wa, hwa⟩ : ∃ wa, wa = (w.alloc (Obj.cells #[.slice A1 n1 c1, .slice A2 n2 c2] 25)).alloc (Obj.cells #[.string nm] 9) := ⟨_, rfl⟩
  have hba : Below w.heap.size w wa := by rw [hwa]; exact below_alloc (below_alloc (Below.refl _ _) _) _
  have hcn : wa.cell? ⟨w.heap.size + 1, 0, none⟩ = some (.string nm) := by
    have h1 : wa.heap[w.heap.size + 1]? = some (Obj.cells #[.string nm] 9 (0, 0)) := by rw [hwa]; have := blk_alloc (w.alloc (Obj.cells #[.slice A1 n1 c1, .slice A2 n2 c2] 25)) (Obj.cells #[.string nm] 9 (0, 0)); rw [show (w.alloc (Obj.cells #[.slice A1 n1 c1, .slice A2 n2 c2] 25)).heap.size = w.heap.size + 1 from by simp] at this; exact this
    exact blk_cell h1 0
  rw [← hwa]
  refine (idxTable_any A1 n1 c1 xs nm _ wa (Kd.C_below HC.out hba) hcn).mono ?_
  rintro e w1 ⟨rfl, hb1⟩
  have HB1 := Aside0.mk (below_then hba hba.size hb1)
  clear hb1 hba hcn hwa
  go_wp2_with fail
  refine (found_any _ _).mono ?_
  rintro e w2 ⟨rfl, hw2⟩
  obtain rfl := hw2.symm
  go_wp2_with fail
  go_ret2
  exact ⟨rfl, HB1.out⟩
set_option maxHeartbeats 1000000 in
theorem posTable_any (A1 : Option Addr) (n1 c1 : Nat) (A2 : Option Addr) (n2 c2 : Nat) (xs : List Tab) (nm : ByteArray) (w : World) (hC0 : kTab.C w A1 n1 xs) :
    Calls Try.prog 30 #[.agg #[.slice A1 n1 c1, .slice A2 n2 c2], .string nm] w fun e w' => e = .returned (.int .i64 (posF (xs.map (·.name)) nm)) ∧ Below w.heap.size w w' := by
  have HN := Lib.hid hC0.1
  have hn := hC0.2.1
  go_enter Try.func30, Try.ntmps30
  go_wp2_with fail
  have hg1 : (w.alloc (Obj.cells #[.slice A1 n1 c1, .slice A2 n2 c2] 25)).heap[w.heap.size]? = some (Obj.cells #[.slice A1 n1 c1, .slice A2 n2 c2] 25) := blk_alloc w _
  have hb1 : Below w.heap.size w (w.alloc (Obj.cells #[.slice A1 n1 c1, .slice A2 n2 c2] 25)) := below_alloc (Below.refl _ _) _
  obtain ⟨W1, hw1⟩ : ∃ w1, w1 = w.alloc (Obj.cells #[.slice A1 n1 c1, .slice A2 n2 c2] 25) := ⟨_, rfl⟩
  obtain ⟨g, hg⟩ : ∃ g, g = w.heap.size := ⟨_, rfl⟩
  rw [← hw1] at hg1 hb1
  rw [← hg] at hg1
  rw [← hw1, ← hg]
  have f1 : W1.cell? ⟨g, 0, none⟩ = some (.slice A1 n1 c1) := blk_cell hg1 0
  have HC := Aside0.mk (Kd.C_below hC0 hb1)
  have HB1 := Aside0.mk hb1
  clear hw1 hg hg1 hb1 hC0
  go_loop [5] (fun i => ∃ k : Nat, i = .int .i64 k ∧ Aside0 (k ≤ n1 ∧ ¬ nm ∈ (xs.map (·.name)).take k)) (fun i => n1 - (intOf i).toNat)
  case atStart => exact ⟨0, rfl, ⟨Nat.zero_le _, by simp⟩⟩
  case round =>
    obtain ⟨k, rfl, ⟨hk0, hall⟩⟩ := hrel
    have HALL := Lib.hid hall
    clear hall
    by_cases hk : k < n1
    · obtain ⟨ad, x, B1, d1, B2, d2, B3, d3, rfl, hx, hmem0, hts0, q0, q1, q2, q3, q4, hc1, hc2, hc3⟩ := tab_at HC.out (Below.refl _ _) k hk
      have hts := Lib.hid (take_map (·.name) _ k x hts0)
      have hkl : k < (xs.map (·.name)).length := by rw [List.length_map, HN.out]; exact hk
      have HKL := Lib.hid hkl
      clear hts0 hmem0 hx hc1 hc2 hc3 hkl
      have p0 : (0 : Int) ≤ k := by omega
      have p1 : (k : Int) < n1 := by omega
      by_cases hE : x.name = nm
      · have he := str_eq_true hE
        have HE := Lib.hid hE
        clear hE
        go_wp2_with fail
        go_ret
        refine ⟨?_, HB1.out⟩
        have h1 := hts.out
        rw [HE.out] at h1
        rw [posF_at h1 HALL.out HKL.out]; rfl
      · have he := str_eq_false hE
        have HE := Lib.hid hE
        clear hE
        go_wp2_with fail
        go_round
        case rel => exact ⟨k + 1, by go_num, ⟨by omega, take_not_mem hts.out HALL.out HE.out⟩⟩
        case measure => simp [intOf]; omega
    · have hxs : (xs.map (·.name)).take k = xs.map (·.name) := List.take_of_length_le (by rw [List.length_map, HN.out]; omega)
      rw [hxs] at HALL
      clear hxs
      go_wp2_with fail
      go_ret
      exact ⟨by rw [posF_none HALL.out]; rfl, HB1.out⟩
theorem cloProc_any (x : Prc) (B1 : Option Addr) (d1 : Nat) (B2 : Option Addr) (d2 : Nat) (nm : ByteArray) (gn : Nat) (w : World) (hc : w.cell? ⟨gn, 0, none⟩ = some (.string nm)) :
    Calls Try.prog 57 #[.agg #[.string x.name, .slice B1 x.params.length d1, .slice B2 x.body.length d2, .int .i64 x.rows, .int .i64 x.bytes], .pointer (some ⟨gn, 0, none⟩)] w fun e w' => e = .returned (.bool (decide (x.name = nm))) ∧ Below w.heap.size w w' := by
  have hc2 : (w.alloc (Obj.cells #[.string x.name, .slice B1 x.params.length d1, .slice B2 x.body.length d2, .int .i64 x.rows, .int .i64 x.bytes] 34)).cell? ⟨gn, 0, none⟩ = some (.string nm) := pw_cell_below (below_alloc (Below.refl _ _) _) hc
  go_enter Try.func57, Try.ntmps57
  by_cases h : x.name = nm
  · have he := str_eq_true h
    have H := Lib.hid h
    clear h
    go_wp2_with fail
    go_ret
    exact ⟨ret_bool (decide_eq_true H.out).symm, below_alloc (Below.refl _ _) _⟩
  · have he := str_eq_false h
    have H := Lib.hid h
    clear h
    go_wp2_with fail
    go_ret
    exact ⟨ret_bool (decide_eq_false H.out).symm, below_alloc (Below.refl _ _) _⟩
set_option maxHeartbeats 1000000 in
theorem idxProc_any (A : Option Addr) (n c : Nat) (xs : List Prc) (nm : ByteArray) (gn : Nat) (w : World) (hC0 : kPrc.C w A n xs) (hc : w.cell? ⟨gn, 0, none⟩ = some (.string nm)) :
    Calls Try.prog 56 #[.slice A n c, .func (.func 57) #[] #[.pointer (some ⟨gn, 0, none⟩)]] w fun e w' => e = .returned (.int .i64 (posF (xs.map (·.name)) nm)) ∧ Below w.heap.size w w' := by
  have HC := Aside0.mk hC0
  have HN := Lib.hid hC0.1
  have hn := hC0.2.1
  have HCN := Lib.hid hc
  clear hC0 hc
  go_enter Try.func56, Try.ntmps56
  go_wp2_with fail
  go_loopg [8] n (fun gn i wr => ∃ k : Nat, i = .int .i64 k ∧ Aside0 (k + gn = n ∧ ¬ nm ∈ (xs.map (·.name)).take k) ∧ Aside0 (Below w.heap.size w wr))
  case atStart => exact ⟨0, rfl, ⟨by omega, by simp⟩, ⟨Below.refl _ _⟩⟩
  case round =>
    obtain ⟨k, rfl, ⟨hg, hall⟩, hB⟩ := hrel
    have HALL := Lib.hid hall
    have HG := Lib.hid hg
    clear hall hg
    by_cases hk : k < n
    · obtain ⟨ad, x, B1, d1, B2, d2, rfl, hx, hmem0, hts0, q0, q1, q2, q3, q4, hc1, hc2⟩ := prc_at HC.out hB.out k hk
      have hts := Lib.hid (take_map (·.name) _ k x hts0)
      have hkl : k < (xs.map (·.name)).length := by rw [List.length_map, HN.out]; exact hk
      have HKL := Lib.hid hkl
      clear hts0 hmem0 hx hc1 hc2 hkl
      have p0 : (0 : Int) ≤ k := by omega
      have p1 : (k : Int) < n := by omega
      go_wp2_with fail
      refine (cloProc_any x B1 d1 B2 d2 nm gn _ (pw_cell_below hB.out HCN.out)).mono ?_
      rintro e w1 ⟨rfl, hb1⟩
      have hB1 := Aside0.mk (below_then hB.out hB.out.size hb1)
      clear hb1 hB q0 q1 q2 q3 q4
      by_cases hE : x.name = nm
      · rw [decide_eq_true hE]
        have HE := Lib.hid hE
        clear hE
        go_wp2_with fail
        go_ret
        refine ⟨?_, hB1.out⟩
        have h1 := hts.out
        rw [HE.out] at h1
        rw [posF_at h1 HALL.out HKL.out]; rfl
      · rw [decide_eq_false hE]
        have HE := Lib.hid hE
        clear hE
        go_wp2_with fail
        go_roundg (n - (k + 1))
        case measure => have := HG.out; omega
        case rel => exact ⟨k + 1, by go_num, ⟨by have := HG.out; omega, take_not_mem hts.out HALL.out HE.out⟩, hB1⟩
    · have hxs : (xs.map (·.name)).take k = xs.map (·.name) := List.take_of_length_le (by rw [List.length_map, HN.out]; omega)
      rw [hxs] at HALL
      clear hxs
      go_wp2_with fail
      go_ret
      exact ⟨by rw [posF_none HALL.out]; rfl, hB.out⟩
set_option maxHeartbeats 1000000 in
theorem findProc_any (A1 : Option Addr) (n1 c1 : Nat) (A2 : Option Addr) (n2 c2 : Nat) (xs : List Prc) (nm : ByteArray) (w : World) (hC0 : kPrc.C w A2 n2 xs) :
    Calls Try.prog 26 #[.agg #[.slice A1 n1 c1, .slice A2 n2 c2], .string nm] w fun e w' => e = .returned (.tuple #[(foundV (posF (xs.map (·.name)) nm)).1, (foundV (posF (xs.map (·.name)) nm)).2]) ∧ Below w.heap.size w w' := by
  have HC := Aside0.mk hC0
  clear hC0
  go_enter Try.func26, Try.ntmps26
  go_wp2_with fail
  obtain ⟨wa, hwa⟩ : ∃ wa, wa = (w.alloc (Obj.cells #[.slice A1 n1 c1, .slice A2 n2 c2] 25)).alloc (Obj.cells #[.string nm] 9) := ⟨_, rfl⟩
  have hba : Below w.heap.size w wa := by rw [hwa]; exact below_alloc (below_alloc (Below.refl _ _) _) _
  have hcn : wa.cell? ⟨w.heap.size + 1, 0, none⟩ = some (.string nm) := by
    have h1 : wa.heap[w.heap.size + 1]? = some (Obj.cells #[.string nm] 9 (0, 0)) := by rw [hwa]; have := blk_alloc (w.alloc (Obj.cells #[.slice A1 n1 c1, .slice A2 n2 c2] 25)) (Obj.cells #[.string nm] 9 (0, 0)); rw [show (w.alloc (Obj.cells #[.slice A1 n1 c1, .slice A2 n2 c2] 25)).heap.size = w.heap.size + 1 from by simp] at this; exact this
    exact blk_cell h1 0
  rw [← hwa]
  refine (idxProc_any A2 n2 c2 xs nm _ wa (Kd.C_below HC.out hba) hcn).mono ?_
  rintro e w1 ⟨rfl, hb1⟩
  have HB1 := Aside0.mk (below_then hba hba.size hb1)
  clear hb1 hba hcn hwa
  go_wp2_with fail
  refine (found_any _ _).mono ?_
  rintro e w2 ⟨rfl, hw2⟩
  obtain rfl := hw2.symm
  go_wp2_with fail
  go_ret2
  exact ⟨rfl, HB1.out⟩
set_option maxHeartbeats 1000000 in
theorem posProc_any (A1 : Option Addr) (n1 c1 : Nat) (A2 : Option Addr) (n2 c2 : Nat) (xs : List Prc) (nm : ByteArray) (w : World) (hC0 : kPrc.C w A2 n2 xs) :
    Calls Try.prog 31 #[.agg #[.slice A1 n1 c1, .slice A2 n2 c2], .string nm] w fun e w' => e = .returned (.int .i64 (posF (xs.map (·.name)) nm)) ∧ Below w.heap.size w w' := by
  have HN := Lib.hid hC0.1
  have hn := hC0.2.1
  go_enter Try.func31, Try.ntmps31
  go_wp2_with fail
  have hg1 : (w.alloc (Obj.cells #[.slice A1 n1 c1, .slice A2 n2 c2] 25)).heap[w.heap.size]? = some (Obj.cells #[.slice A1 n1 c1, .slice A2 n2 c2] 25) := blk_alloc w _
  have hb1 : Below w.heap.size w (w.alloc (Obj.cells #[.slice A1 n1 c1, .slice A2 n2 c2] 25)) := below_alloc (Below.refl _ _) _
  obtain ⟨W1, hw1⟩ : ∃ w1, w1 = w.alloc (Obj.cells #[.slice A1 n1 c1, .slice A2 n2 c2] 25) := ⟨_, rfl⟩
  obtain ⟨g, hg⟩ : ∃ g, g = w.heap.size := ⟨_, rfl⟩
  rw [← hw1] at hg1 hb1
  rw [← hg] at hg1
  rw [← hw1, ← hg]
  have f1 : W1.cell? ⟨g, 1, none⟩ = some (.slice A2 n2 c2) := blk_cell hg1 1
  have HC := Aside0.mk (Kd.C_below hC0 hb1)
  have HB1 := Aside0.mk hb1
  clear hw1 hg hg1 hb1 hC0
  go_loop [5] (fun i => ∃ k : Nat, i = .int .i64 k ∧ Aside0 (k ≤ n2 ∧ ¬ nm ∈ (xs.map (·.name)).take k)) (fun i => n2 - (intOf i).toNat)
  case atStart => exact ⟨0, rfl, ⟨Nat.zero_le _, by simp⟩⟩
  case round =>
    obtain ⟨k, rfl, ⟨hk0, hall⟩⟩ := hrel
    have HALL := Lib.hid hall
    clear hall
    by_cases hk : k < n2
    · obtain ⟨ad, x, B1, d1, B2, d2, rfl, hx, hmem0, hts0, q0, q1, q2, q3, q4, hc1, hc2⟩ := prc_at HC.out (Below.refl _ _) k hk
      have hts := Lib.hid (take_map (·.name) _ k x hts0)
      have hkl : k < (xs.map (·.name)).length := by rw [List.length_map, HN.out]; exact hk
      have HKL := Lib.hid hkl
      clear hts0 hmem0 hx hc1 hc2 hkl
      have p0 : (0 : Int) ≤ k := by omega
      have p1 : (k : Int) < n2 := by omega
      by_cases hE : x.name = nm
      · have he := str_eq_true hE
        have HE := Lib.hid hE
        clear hE
        go_wp2_with fail
        go_ret
        refine ⟨?_, HB1.out⟩
        have h1 := hts.out
        rw [HE.out] at h1
        rw [posF_at h1 HALL.out HKL.out]; rfl
      · have he := str_eq_false hE
        have HE := Lib.hid hE
        clear hE
        go_wp2_with fail
        go_round
        case rel => exact ⟨k + 1, by go_num, ⟨by omega, take_not_mem hts.out HALL.out HE.out⟩⟩
        case measure => simp [intOf]; omega
    · have hxs : (xs.map (·.name)).take k = xs.map (·.name) := List.take_of_length_le (by rw [List.length_map, HN.out]; omega)
      rw [hxs] at HALL
      clear hxs
      go_wp2_with fail
      go_ret
      exact ⟨by rw [posF_none HALL.out]; rfl, HB1.out⟩
theorem cloColumn_any (x : Col) (nm : ByteArray) (gn : Nat) (w : World) (hc : w.cell? ⟨gn, 0, none⟩ = some (.string nm)) :
    Calls Try.prog 67 #[.agg #[.string x.name, .int .i64 x.type, .bool x.notNull], .pointer (some ⟨gn, 0, none⟩)] w fun e w' => e = .returned (.bool (decide (x.name = nm))) ∧ Below w.heap.size w w' := by
  have hc2 : (w.alloc (Obj.cells #[.string x.name, .int .i64 x.type, .bool x.notNull] 62)).cell? ⟨gn, 0, none⟩ = some (.string nm) := pw_cell_below (below_alloc (Below.refl _ _) _) hc
  go_enter Try.func67, Try.ntmps67
  by_cases h : x.name = nm
  · have he := str_eq_true h
    have H := Lib.hid h
    clear h
    go_wp2_with fail
    go_ret
    exact ⟨ret_bool (decide_eq_true H.out).symm, below_alloc (Below.refl _ _) _⟩
  · have he := str_eq_false h
    have H := Lib.hid h
    clear h
    go_wp2_with fail
    go_ret
    exact ⟨ret_bool (decide_eq_false H.out).symm, below_alloc (Below.refl _ _) _⟩
set_option maxHeartbeats 1000000 in
theorem idxColumn_any (A : Option Addr) (n c : Nat) (xs : List Col) (nm : ByteArray) (gn : Nat) (w : World) (hC0 : kCol.C w A n xs) (hc : w.cell? ⟨gn, 0, none⟩ = some (.string nm)) :
    Calls Try.prog 66 #[.slice A n c, .func (.func 67) #[] #[.pointer (some ⟨gn, 0, none⟩)]] w fun e w' => e = .returned (.int .i64 (posF (xs.map (·.name)) nm)) ∧ Below w.heap.size w w' := by
  have HC := Aside0.mk hC0
  have HN := Lib.hid hC0.1
  have hn := hC0.2.1
  have HCN := Lib.hid hc
  clear hC0 hc
  go_enter Try.func66, Try.ntmps66
  go_wp2_with fail
  go_loopg [8] n (fun gn i wr => ∃ k : Nat, i = .int .i64 k ∧ Aside0 (k + gn = n ∧ ¬ nm ∈ (xs.map (·.name)).take k) ∧ Aside0 (Below w.heap.size w wr))
  case atStart => exact ⟨0, rfl, ⟨by omega, by simp⟩, ⟨Below.refl _ _⟩⟩
  case round =>
    obtain ⟨k, rfl, ⟨hg, hall⟩, hB⟩ := hrel
    have HALL := Lib.hid hall
    have HG := Lib.hid hg
    clear hall hg
    by_cases hk : k < n
    · obtain ⟨ad, x, rfl, hx, hmem0, hts0, q0, q1, q2⟩ := col_at HC.out hB.out k hk
      have hts := Lib.hid (take_map (·.name) _ k x hts0)
      have hkl : k < (xs.map (·.name)).length := by rw [List.length_map, HN.out]; exact hk
      have HKL := Lib.hid hkl
      clear hts0 hmem0 hx  hkl
      have p0 : (0 : Int) ≤ k := by omega
      have p1 : (k : Int) < n := by omega
      go_wp2_with fail
      refine (cloColumn_any x nm gn _ (pw_cell_below hB.out HCN.out)).mono ?_
      rintro e w1 ⟨rfl, hb1⟩
      have hB1 := Aside0.mk (below_then hB.out hB.out.size hb1)
      clear hb1 hB q0 q1 q2
      by_cases hE : x.name = nm
      · rw [decide_eq_true hE]
        have HE := Lib.hid hE
        clear hE
        go_wp2_with fail
        go_ret
        refine ⟨?_, hB1.out⟩
        have h1 := hts.out
        rw [HE.out] at h1
        rw [posF_at h1 HALL.out HKL.out]; rfl
      · rw [decide_eq_false hE]
        have HE := Lib.hid hE
        clear hE
        go_wp2_with fail
        go_roundg (n - (k + 1))
        case measure => have := HG.out; omega
        case rel => exact ⟨k + 1, by go_num, ⟨by have := HG.out; omega, take_not_mem hts.out HALL.out HE.out⟩, hB1⟩
    · have hxs : (xs.map (·.name)).take k = xs.map (·.name) := List.take_of_length_le (by rw [List.length_map, HN.out]; omega)
      rw [hxs] at HALL
      clear hxs
      go_wp2_with fail
      go_ret
      exact ⟨by rw [posF_none HALL.out]; rfl, hB.out⟩
set_option maxHeartbeats 1000000 in
theorem findColumn_any (tn : ByteArray) (A1 : Option Addr) (n1 c1 : Nat) (U2 : Option Addr) (m2 e2 : Nat) (part : Int) (U3 : Option Addr) (m3 e3 : Nat) (xs : List Col) (nm : ByteArray) (w : World) (hC0 : kCol.C w A1 n1 xs) :
    Calls Try.prog 32 #[.agg #[.string tn, .slice A1 n1 c1, .slice U2 m2 e2, .int .i64 part, .slice U3 m3 e3], .string nm] w fun e w' => e = .returned (.tuple #[(foundV (posF (xs.map (·.name)) nm)).1, (foundV (posF (xs.map (·.name)) nm)).2]) ∧ Below w.heap.size w w' := by
  have HC := Aside0.mk hC0
  clear hC0
  go_enter Try.func32, Try.ntmps32
  go_wp2_with fail
  obtain ⟨wa, hwa⟩ : ∃ wa, wa = (w.alloc (Obj.cells #[.string tn, .slice A1 n1 c1, .slice U2 m2 e2, .int .i64 part, .slice U3 m3 e3] 30)).alloc (Obj.cells #[.string nm] 9) := ⟨_, rfl⟩
  have hba : Below w.heap.size w wa := by rw [hwa]; exact below_alloc (below_alloc (Below.refl _ _) _) _
  have hcn : wa.cell? ⟨w.heap.size + 1, 0, none⟩ = some (.string nm) := by
    have h1 : wa.heap[w.heap.size + 1]? = some (Obj.cells #[.string nm] 9 (0, 0)) := by rw [hwa]; have := blk_alloc (w.alloc (Obj.cells #[.string tn, .slice A1 n1 c1, .slice U2 m2 e2, .int .i64 part, .slice U3 m3 e3] 30)) (Obj.cells #[.string nm] 9 (0, 0)); rw [show (w.alloc (Obj.cells #[.string tn, .slice A1 n1 c1, .slice U2 m2 e2, .int .i64 part, .slice U3 m3 e3] 30)).heap.size = w.heap.size + 1 from by simp] at this; exact this
    exact blk_cell h1 0
  rw [← hwa]
  refine (idxColumn_any A1 n1 c1 xs nm _ wa (Kd.C_below HC.out hba) hcn).mono ?_
  rintro e w1 ⟨rfl, hb1⟩
  have HB1 := Aside0.mk (below_then hba hba.size hb1)
  clear hb1 hba hcn hwa
  go_wp2_with fail
  refine (found_any _ _).mono ?_
  rintro e w2 ⟨rfl, hw2⟩
  obtain rfl := hw2.symm
  go_wp2_with fail
  go_ret2
  exact ⟨rfl, HB1.out⟩
set_option maxHeartbeats 1000000 in
theorem posColumn_any (tn : ByteArray) (A1 : Option Addr) (n1 c1 : Nat) (U2 : Option Addr) (m2 e2 : Nat) (part : Int) (U3 : Option Addr) (m3 e3 : Nat) (xs : List Col) (nm : ByteArray) (w : World) (hC0 : kCol.C w A1 n1 xs) :
    Calls Try.prog 33 #[.agg #[.string tn, .slice A1 n1 c1, .slice U2 m2 e2, .int .i64 part, .slice U3 m3 e3], .string nm] w fun e w' => e = .returned (.int .i64 (posF (xs.map (·.name)) nm)) ∧ Below w.heap.size w w' := by
  have HN := Lib.hid hC0.1
  have hn := hC0.2.1
  go_enter Try.func33, Try.ntmps33
  go_wp2_with fail
  have hg1 : (w.alloc (Obj.cells #[.string tn, .slice A1 n1 c1, .slice U2 m2 e2, .int .i64 part, .slice U3 m3 e3] 30)).heap[w.heap.size]? = some (Obj.cells #[.string tn, .slice A1 n1 c1, .slice U2 m2 e2, .int .i64 part, .slice U3 m3 e3] 30) := blk_alloc w _
  have hb1 : Below w.heap.size w (w.alloc (Obj.cells #[.string tn, .slice A1 n1 c1, .slice U2 m2 e2, .int .i64 part, .slice U3 m3 e3] 30)) := below_alloc (Below.refl _ _) _
  obtain ⟨W1, hw1⟩ : ∃ w1, w1 = w.alloc (Obj.cells #[.string tn, .slice A1 n1 c1, .slice U2 m2 e2, .int .i64 part, .slice U3 m3 e3] 30) := ⟨_, rfl⟩
  obtain ⟨g, hg⟩ : ∃ g, g = w.heap.size := ⟨_, rfl⟩
  rw [← hw1] at hg1 hb1
  rw [← hg] at hg1
  rw [← hw1, ← hg]
  have f1 : W1.cell? ⟨g, 1, none⟩ = some (.slice A1 n1 c1) := blk_cell hg1 1
  have HC := Aside0.mk (Kd.C_below hC0 hb1)
  have HB1 := Aside0.mk hb1
  clear hw1 hg hg1 hb1 hC0
  go_loop [5] (fun i => ∃ k : Nat, i = .int .i64 k ∧ Aside0 (k ≤ n1 ∧ ¬ nm ∈ (xs.map (·.name)).take k)) (fun i => n1 - (intOf i).toNat)
  case atStart => exact ⟨0, rfl, ⟨Nat.zero_le _, by simp⟩⟩
  case round =>
    obtain ⟨k, rfl, ⟨hk0, hall⟩⟩ := hrel
    have HALL := Lib.hid hall
    clear hall
    by_cases hk : k < n1
    · obtain ⟨ad, x, rfl, hx, hmem0, hts0, q0, q1, q2⟩ := col_at HC.out (Below.refl _ _) k hk
      have hts := Lib.hid (take_map (·.name) _ k x hts0)
      have hkl : k < (xs.map (·.name)).length := by rw [List.length_map, HN.out]; exact hk
      have HKL := Lib.hid hkl
      clear hts0 hmem0 hx  hkl
      have p0 : (0 : Int) ≤ k := by omega
      have p1 : (k : Int) < n1 := by omega
      by_cases hE : x.name = nm
      · have he := str_eq_true hE
        have HE := Lib.hid hE
        clear hE
        go_wp2_with fail
        go_ret
        refine ⟨?_, HB1.out⟩
        have h1 := hts.out
        rw [HE.out] at h1
        rw [posF_at h1 HALL.out HKL.out]; rfl
      · have he := str_eq_false hE
        have HE := Lib.hid hE
        clear hE
        go_wp2_with fail
        go_round
        case rel => exact ⟨k + 1, by go_num, ⟨by omega, take_not_mem hts.out HALL.out HE.out⟩⟩
        case measure => simp [intOf]; omega
    · have hxs : (xs.map (·.name)).take k = xs.map (·.name) := List.take_of_length_le (by rw [List.length_map, HN.out]; omega)
      rw [hxs] at HALL
      clear hxs
      go_wp2_with fail
      go_ret
      exact ⟨by rw [posF_none HALL.out]; rfl, HB1.out⟩
end Go.Proofs.Ytcmgdieeclninaa
