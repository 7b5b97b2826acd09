/- Layer 19: lists of lists of locks. -/
import Derived.Test.YtajblhainchplaaJ23
set_option linter.unusedVariables false
set_option linter.unusedSimpArgs false
namespace Go.Proofs.Ytajblhainchplaa
open Go.RowKit Go.Proofs.YtajblhainchplaaW.PrintWords Go.Proofs.YtajblhainchplaaW.PrintLast Go.Proofs.Ytajblhainchplaa.Opn
def kLL : Kd (List Lk) := Kd.slice 23 kLk
theorem kLL_K {w : World} {x : List Lk} {cs : List Value} : kLL.K w x cs ↔ ∃ A c, cs = [.slice A x.length c] ∧ x.length ≤ c ∧ kLk.C w A x.length x := by
  constructor
  · rintro ⟨A, c, rfl, hl, hC⟩; exact ⟨A, c, rfl, hl, hC⟩
  · rintro ⟨A, c, rfl, hl, hC⟩; exact ⟨A, c, rfl, hl, hC⟩
theorem ll_at {w wr : World} {A : Option Addr} {n : Nat} {xs : List (List Lk)} (h : kLL.C w A n xs) (hb : Below w.heap.size w wr) (k : Nat) (hk : k < n) :
    ∃ ad x B d, A = some ad ∧ xs.getD k default = x ∧ x ∈ xs ∧ xs.take (k + 1) = xs.take k ++ [x] ∧ wr.cell? (ad.add k) = some (.slice B x.length d) ∧ x.length ≤ d ∧ kLk.C w B x.length x := by
  obtain ⟨ad, cs, rfl, hlen, hcs, hcell⟩ := C_at h k hk default
  rw [kLL_K] at hcs
  obtain ⟨B, d, rfl, hl, hC⟩ := hcs
  have hkl : k < xs.length := by rw [h.1]; exact hk
  have h0 := hcell 0 _ rfl
  have h1 : kLL.sz = 1 := rfl
  rw [h1, Nat.mul_one] at h0
  exact ⟨ad, _, B, d, rfl, rfl, getD_mem xs k default hkl, take_snoc xs k default hkl, pw_cell_below hb h0, hl, hC⟩
theorem o27 : Opens Try.prog 27 (Kd.slice 29 kLL) (fun xs => xs.length * 24 ≤ 140737488351232 ∧ ∀ x ∈ xs, x.length * 48 ≤ 140737488351232 ∧ ∀ s ∈ x, LkZ s) := opens_slice Try.underlying27 (by kernel_rfl) (B := 24) (by kernel_rfl) o29
end Go.Proofs.Ytajblhainchplaa
