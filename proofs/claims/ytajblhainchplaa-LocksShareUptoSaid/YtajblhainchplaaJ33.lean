/- Layer 19: what the bound on the arguments' bulk gives; the laws LocksEnd, LocksShare as their rows take them. -/
import Derived.Test.YtajblhainchplaaJ32
set_option linter.unusedVariables false
set_option linter.unusedSimpArgs false
namespace Go.Proofs.Ytajblhainchplaa
open Go.RowKit Go.Proofs.YtajblhainchplaaW.PrintWords Go.Proofs.Ytajblhainchplaa.Opn
theorem bulk_one {H : Type} (d : DataW H) : 1 ≤ Rows.uptoBulk d := by
  cases d with
  | lit l => cases l <;> simp [Rows.uptoBulk]
  | nil => simp [Rows.uptoBulk]
  | ptr d => simp [Rows.uptoBulk]
  | slice elems spare => simp [Rows.uptoBulk]
  | agg parts => simp [Rows.uptoBulk]
  | iface t d => simp [Rows.uptoBulk]
  | map entries => simp [Rows.uptoBulk]
  | held h => simp [Rows.uptoBulk]
theorem bulk_part {H : Type} {d : DataW H} {l : List (DataW H)} (h : d ∈ l) : Rows.uptoBulk d ≤ Rows.uptoBulkAll l := by
  induction l with
  | nil => cases h
  | cons x r ih =>
    simp only [Rows.uptoBulkAll]
    cases List.mem_cons.1 h with
    | inl e => subst e; omega
    | inr e => have := ih e; omega
theorem bulk_length {H : Type} (l : List (DataW H)) : l.length ≤ Rows.uptoBulkAll l := by
  induction l with
  | nil => simp [Rows.uptoBulkAll]
  | cons x r ih => have := bulk_one x; simp only [Rows.uptoBulkAll, List.length_cons]; omega
/-- A slice that came in has at most as many elements as the bound says. -/
theorem bulk_slice {H : Type} {enc : TypeId × Value → H} {P : Program} {t e : TypeId} {W : World} {base : Nat} {spare : Nat → Bool} {held : Bool} {A : Option Addr} {n c : Nat} {x : DataW H} {ps : List MemPlace} (hu : P.underlying t = some (.slice e))
    (h : DataW.Trod enc P W base spare held t (.slice A n c) x ps) : n ≤ Rows.uptoBulk x := by
  obtain ⟨fuel, hf⟩ := h
  rcases Deep.open_slice hu hf with ⟨h1, _⟩ | ⟨a, len, cap, m, k, D, Pl, h1, hb, hl, hm, _, hx, hall⟩
  · simp only [Value.cells, List.cons.injEq, Value.slice.injEq] at h1
    omega
  · simp only [Value.cells, List.cons.injEq, Value.slice.injEq] at h1
    injection hx with hx _
    subst hx
    simp only [Rows.uptoBulk]
    have h2 := bulk_length ((List.range len).map D)
    rw [List.length_map, List.length_range] at h2
    omega
theorem bulk_small {H : Type} {l : List (DataW H)} {x : DataW H} {n : Nat} (hk : Rows.uptoSmall H l = true) (hx : x ∈ l) (hn : n ≤ Rows.uptoBulk x) : n ≤ 1048576 := by
  have h1 : Rows.uptoBulkAll l ≤ 1048576 := of_decide_eq_true hk
  have h2 := bulk_part hx
  omega
attribute [local irreducible] Opens OpensF in
theorem o37 : Opens Try.prog 37 (Kd.slice 3 (Kd.int .i64)) (fun xs => xs.length * 8 ≤ 140737488351232 ∧ ∀ x ∈ xs, True) := opens_slice Try.underlying37 (by kernel_rfl) (B := 8) (by kernel_rfl) o3
theorem locksEnd_row (A : Option Addr) (n1 c : Nat) (asked : List (List Lk)) (B : Option Addr) (n2 d : Nat) (picks : List Int) (W : World) (hC : kLL.C W A n1 asked) (_ : n1 ≤ c) (hZ : LLZ asked) (hP : (Kd.int .i64).C W B n2 picks) (_ : n2 ≤ d) (_ : picks.length * 8 ≤ 140737488351232 ∧ ∀ x ∈ picks, True) (hn : asked.length ≤ 1048576) :
    Calls Try.prog 5 #[.slice A n1 c, .slice B n2 d] W fun e W' => e = .returned (.bool true) ∧ Below W.heap.size W W' := locksEnd_any A n1 c asked B n2 d picks W hC hP hZ hn
theorem locksShare_row (A : Option Addr) (n1 c : Nat) (asked : List (List Lk)) (csw : Array Value) (wl : Lk) (W : World) (hC : kLL.C W A n1 asked) (_ : n1 ≤ c) (hZ : LLZ asked) (hKw : kLk.K W wl csw.toList) (hZw : LkZ wl) (hn : asked.length ≤ 1048576) :
    Calls Try.prog 4 #[.slice A n1 c, .agg csw] W fun e W' => e = .returned (.bool true) ∧ Below W.heap.size W W' := locksShare_any A n1 c asked csw wl W hC hKw hZ hZw hn
end Go.Proofs.Ytajblhainchplaa
