/- Layer 19: the laws' arguments. -/
import Derived.Test.YtajblhainchplaaJ12
import Derived.Test.YtajblhainchplaaOpen
set_option linter.unusedVariables false
set_option linter.unusedSimpArgs false
namespace Go.Proofs.Ytajblhainchplaa
open Go.RowKit Go.Proofs.YtajblhainchplaaW.PrintWords Go.Proofs.Ytajblhainchplaa.Opn
attribute [local irreducible] Opens OpensF
theorem o9 : Opens Try.prog 9 Kd.string (fun s => s.size ≤ 140737488351232) := opens_string Try.underlying9
theorem o3 : Opens Try.prog 3 (Kd.int .i64) (fun _ => True) := opens_imp (opens_int Try.underlying3) (fun _ _ => trivial)
theorem o4 : Opens Try.prog 4 Kd.bool (fun _ => True) := opens_bool Try.underlying4
theorem o23 : Opens Try.prog 23 kLk LkZ :=
  opens_imp (opens_iso (fun m : Lk => (m.table, m.lo, m.hi, m.write)) (fun p => ⟨p.1, p.2.1, p.2.2.1, p.2.2.2⟩) (fun _ => rfl) (opens_struct Try.underlying23 (by kernel_rfl) (opensF_cons rfl (by kernel_rfl) o3 (opensF_cons rfl (by kernel_rfl) o9 (opensF_cons rfl (by kernel_rfl) o9 (opensF_one rfl (by kernel_rfl) o4))))))
    (fun x h => ⟨h.2.1, h.2.2.1⟩)
theorem o29 : Opens Try.prog 29 (Kd.slice 23 kLk) (fun xs => xs.length * 48 ≤ 140737488351232 ∧ ∀ x ∈ xs, LkZ x) := opens_slice Try.underlying29 (by kernel_rfl) (B := 48) (by kernel_rfl) o23
end Go.Proofs.Ytajblhainchplaa
