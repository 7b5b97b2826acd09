/- Layer 23: the walks of the small functions. -/
import Derived.Test.YtlnneaccgfakeaaRows
import Derived.Test.YtlnneaccgfakeaaK2
set_option linter.unusedVariables false
set_option linter.unusedSimpArgs false
namespace Go.Proofs.Ytlnneaccgfakeaa
open Go.RowKit Go.Proofs.YtlnneaccgfakeaaW.PrintWords Go.Proofs.YtlnneaccgfakeaaW.PrintLast
abbrev pBox (n : NS) (v : Value) : Obj := .cells #[.int .i64 n.sent, .int .i64 n.doubled, .int .i64 n.lost, .int .i64 n.delivered, .int .i64 n.nodes, v] 45 (0, 0)
set_option maxHeartbeats 400000 in
theorem node_any (n : NS) (v : Value) (p : Nat) (k : Int) (w : World) (h : w.heap[p]? = some (pBox n v)) :
    Calls Try.prog 18 #[.pointer (some ⟨p, 0, none⟩), .int .i64 k] w fun e w' => e = .returned (.bool (decide (n.isNode k))) ∧ w' = w := by
  have f : w.cell? ⟨p, 4, none⟩ = some (.int .i64 n.nodes) := blk_cell h 4
  clear h
  by_cases h1 : 0 ≤ k
  · by_cases h2 : k < n.nodes
    · go_enter Try.func18, Try.ntmps18
      go_wp2_with fail
      go_ret
      exact ⟨ret_bool (by simp [NS.isNode, h1, h2]), rfl⟩
    · go_enter Try.func18, Try.ntmps18
      go_wp2_with fail
      go_ret
      exact ⟨ret_bool (by simp [NS.isNode, h1, h2]), rfl⟩
  · go_enter Try.func18, Try.ntmps18
    go_wp2_with fail
    go_ret
    exact ⟨ret_bool (decide_eq_false (fun h => absurd h.1 (by omega))).symm, rfl⟩
def inR (k : Int) (m : Nat) : Prop := 0 ≤ k ∧ k < m
instance (k : Int) (m : Nat) : Decidable (inR k m) := by unfold inR; infer_instance
set_option maxHeartbeats 400000 in
theorem there_any (n : NS) (A : Option Addr) (m c : Nat) (p : Nat) (k : Int) (w : World) (h : w.heap[p]? = some (pBox n (.slice A m c))) :
    Calls Try.prog 20 #[.pointer (some ⟨p, 0, none⟩), .int .i64 k] w fun e w' => e = .returned (.bool (decide (inR k m))) ∧ w' = w := by
  have f : w.cell? ⟨p, 5, none⟩ = some (.slice A m c) := blk_cell h 5
  clear h
  by_cases h1 : 0 ≤ k
  · by_cases h2 : k < m
    · go_enter Try.func20, Try.ntmps20
      go_wp2_with fail
      go_ret
      exact ⟨ret_bool (by simp [inR, h1, h2]), rfl⟩
    · go_enter Try.func20, Try.ntmps20
      go_wp2_with fail
      go_ret
      exact ⟨ret_bool (by simp [inR, h1, h2]), rfl⟩
  · go_enter Try.func20, Try.ntmps20
    go_wp2_with fail
    go_ret
    exact ⟨ret_bool (decide_eq_false (fun h => absurd h.1 (by omega))).symm, rfl⟩
set_option maxHeartbeats 400000 in
theorem counts_any (n : NS) (v : Value) (p : Nat) (w : World) (h : w.heap[p]? = some (pBox n v)) :
    Calls Try.prog 13 #[.pointer (some ⟨p, 0, none⟩)] w fun e w' => e = .returned (.tuple #[.int .i64 n.sent, .int .i64 n.doubled, .int .i64 n.lost, .int .i64 n.delivered]) ∧ ∃ m, w' = w.drewN m := by
  have f0 : w.cell? ⟨p, 0, none⟩ = some (.int .i64 n.sent) := blk_cell h 0
  have f1 : w.cell? ⟨p, 1, none⟩ = some (.int .i64 n.doubled) := blk_cell h 1
  have f2 : w.cell? ⟨p, 2, none⟩ = some (.int .i64 n.lost) := blk_cell h 2
  have f3 : w.cell? ⟨p, 3, none⟩ = some (.int .i64 n.delivered) := blk_cell h 3
  clear h
  go_enter Try.func13, Try.ntmps13
  go_wp2_with fail
  go_quiet (fail)
  go_wp2_with fail
  exact bodyPost_ret (results_list (rs := [_, _, _, _]) rfl (by simp) (.tmp (.tmp (.tmp (.tmp .nil))))) rfl ⟨rfl, _, rfl⟩
set_option maxHeartbeats 400000 in
theorem nodes_any (n : NS) (v : Value) (p : Nat) (w : World) (h : w.heap[p]? = some (pBox n v)) :
    Calls Try.prog 17 #[.pointer (some ⟨p, 0, none⟩)] w fun e w' => e = .returned (.int .i64 n.nodes) ∧ w' = w := by
  have f0 : w.cell? ⟨p, 4, none⟩ = some (.int .i64 n.nodes) := blk_cell h 4
  clear h
  go_enter Try.func17, Try.ntmps17
  go_wp2_with fail
  go_ret
  exact ⟨rfl, rfl⟩
def okNodes (k : Int) : Prop := 2 ≤ k ∧ k ≤ 9
instance (k : Int) : Decidable (okNodes k) := by unfold okNodes; infer_instance
def n0 (k : Int) : NS := ⟨k, 0, 0, 0, 0, []⟩
abbrev rBox (n : NS) (v : Value) : Obj := .cells #[.int .i64 n.nodes, v, .int .i64 n.sent, .int .i64 n.doubled, .int .i64 n.lost, .int .i64 n.delivered] 59 (0, 0)
set_option maxHeartbeats 400000 in
theorem new_ok (k : Int) (w : World) (h : okNodes k) :
    Calls Try.prog 7 #[.int .i64 k] w fun e w' => e = .returned (.tuple #[.pointer (some ⟨w.heap.size, 0, none⟩), .int .i64 0]) ∧ w'.heap[w.heap.size]? = some (pBox (n0 k) (.slice none 0 0)) ∧ w'.heap.size = w.heap.size + 1 ∧ Below w.heap.size w w' := by
  have h1 : ¬ k < 2 := by unfold okNodes at h; omega
  have h2 : ¬ 9 < k := by unfold okNodes at h; omega
  clear h
  go_enter Try.func7, Try.ntmps7
  go_wp2_with fail
  exact bodyPost_ret (results_list (rs := [_, _]) rfl (by simp) (.tmp (.tmp .nil))) rfl ⟨rfl, blk_alloc _ _, by simp, below_alloc (Below.refl _ _) _⟩
set_option maxHeartbeats 400000 in
theorem new_no (k : Int) (w : World) (h : ¬ okNodes k) :
    Calls Try.prog 7 #[.int .i64 k] w fun e w' => e = .returned (.tuple #[.pointer none, .int .i64 1]) ∧ w' = w := by
  by_cases h1 : k < 2
  · clear h
    go_enter Try.func7, Try.ntmps7
    go_wp2_with fail
    exact bodyPost_ret (results_list (rs := [_, _]) rfl (by simp) (.tmp (.tmp .nil))) rfl ⟨rfl, rfl⟩
  · have h2 : 9 < k := by unfold okNodes at h; omega
    clear h
    go_enter Try.func7, Try.ntmps7
    go_wp2_with fail
    exact bodyPost_ret (results_list (rs := [_, _]) rfl (by simp) (.tmp (.tmp .nil))) rfl ⟨rfl, rfl⟩
set_option maxHeartbeats 400000 in
theorem rnew_ok (k : Int) (w : World) (h : okNodes k) :
    Calls Try.prog 15 #[.int .i64 k] w fun e w' => e = .returned (.tuple #[.pointer (some ⟨w.heap.size, 0, none⟩), .int .i64 0]) ∧ w'.heap[w.heap.size]? = some (rBox (n0 k) (.slice none 0 0)) ∧ w'.heap.size = w.heap.size + 1 ∧ Below w.heap.size w w' := by
  have h1 : ¬ k < 2 := by unfold okNodes at h; omega
  have h2 : ¬ 9 < k := by unfold okNodes at h; omega
  clear h
  go_enter Try.func15, Try.ntmps15
  go_wp2_with fail
  exact bodyPost_ret (results_list (rs := [_, _]) rfl (by simp) (.tmp (.tmp .nil))) rfl ⟨rfl, blk_alloc _ _, by simp, below_alloc (Below.refl _ _) _⟩
set_option maxHeartbeats 400000 in
theorem rnew_no (k : Int) (w : World) (h : ¬ okNodes k) :
    Calls Try.prog 15 #[.int .i64 k] w fun e w' => e = .returned (.tuple #[.pointer none, .int .i64 1]) ∧ w' = w := by
  by_cases h1 : k < 2
  · clear h
    go_enter Try.func15, Try.ntmps15
    go_wp2_with fail
    exact bodyPost_ret (results_list (rs := [_, _]) rfl (by simp) (.tmp (.tmp .nil))) rfl ⟨rfl, rfl⟩
  · have h2 : 9 < k := by unfold okNodes at h; omega
    clear h
    go_enter Try.func15, Try.ntmps15
    go_wp2_with fail
    exact bodyPost_ret (results_list (rs := [_, _]) rfl (by simp) (.tmp (.tmp .nil))) rfl ⟨rfl, rfl⟩
theorem info9 : (Try.prog.info? 9).map (fun i => (i.zero, i.size, i.bytes)) = some (some (.string ByteArray.empty), 1, 16) := by kernel_rfl
theorem size9 : (Try.prog.info? 9).map (·.size) = some 1 := by kernel_rfl
set_option maxRecDepth 100000 in
set_option maxHeartbeats 1000000 in
theorem clone_any (A : Option Addr) (c : Nat) (xs : List ByteArray) (w0 w : World) (hb0 : Below w0.heap.size w0 w) (hC : Kd.string.C w0 A xs.length xs) (hn : xs.length * 16 ≤ 140737488355328) :
    Calls Try.prog 29 #[.slice A xs.length c] w (Cloned Kd.string 9 xs w0 w) := by
  obtain ⟨news, hr, hl, hA, hcs⟩ := reads_cells hC
  have h1 := reps_one hr (by decide)
  have heq := Lib.run_eql_slice_nil (P := Try.prog) w 30 9 A xs.length c 0 0 Try.underlying30
  have HR := Aside0.mk hr
  have HN := Lib.hid hl
  have HA := Lib.hid hA
  have HCS := Lib.hid hcs
  have HB0 := Aside0.mk hb0
  have HONE := Lib.hid h1
  clear hr hl hA hcs h1 hb0
  go_enter Try.func29, Try.ntmps29
  cases A with
  | none =>
    go_wp2_with fail
    go_ret
    obtain rfl : xs = [] := by
      cases xs with
      | nil => rfl
      | cons a l => obtain ⟨ad, h⟩ := HA.out (by simp); cases h
    exact ⟨_, [], rfl, own_nil _ _ _ _, Reps.none _ _, Below.refl _ _⟩
  | some ad =>
    go_wp2_with ((with_reducible refine gate_append (xs := #[.tmp 5, .tmp 6]) rfl ?_); go_loud (refine own_append_all (w0 := w) w.heap.size rfl (.tmp 5) (.tmp 6) 30 9 _ 1 16 rfl Try.underlying30 info9 rfl (by decide) (by decide) _ 0 [] (some ad) xs.length c news rfl rfl (lit0 w w.heap.size 9 1 (Nat.le_refl _)) HN.out HA.out ?aC HONE.out (below_alloc (Below.refl _ _) _) (by simp) (by omega) ?_); (case aC => intro ad' he j u hj; exact pw_cell_below (below_alloc (Below.refl _ _) _) (pw_cell_below HB0.out (HCS.out ad' he j u hj))); intro v1 w1 ho hb hg hat; have HO := Aside0.mk ho; have HB := Aside0.mk hb; clear ho hb hg hat)
    go_ret
    exact ⟨_, news, rfl, by have h := HO.out; rw [Nat.zero_add, List.nil_append] at h; exact h, HR.out, HB.out⟩
end Go.Proofs.Ytlnneaccgfakeaa
