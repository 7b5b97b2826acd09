/- Layer 23: the laws' arguments. -/
import Derived.Test.YtlnneaccgfakeaaK18
import Derived.Test.YtlnneaccgfakeaaOpen
set_option linter.unusedVariables false
set_option linter.unusedSimpArgs false
namespace Go.Proofs.Ytlnneaccgfakeaa
open Go.RowKit Go.Proofs.YtlnneaccgfakeaaW.PrintWords Go.Proofs.Ytlnneaccgfakeaa.Opn
attribute [local irreducible] Opens OpensF
theorem o9 : Opens Try.prog 9 Kd.string (fun s => s.size ≤ 140737488351232) := opens_string Try.underlying9
theorem o3 : Opens Try.prog 3 (Kd.int .i64) (fun _ => True) := opens_imp (opens_int Try.underlying3) (fun _ _ => trivial)
theorem o30 : Opens Try.prog 30 (Kd.slice 9 Kd.string) (fun xs => xs.length * 16 ≤ 140737488351232 ∧ ∀ x ∈ xs, x.size ≤ 140737488351232) := opens_slice Try.underlying30 (by kernel_rfl) (B := 16) (by kernel_rfl) o9
theorem o32 : Opens Try.prog 32 kMsg (fun m => m.body.length * 16 ≤ 140737488351232 ∧ ∀ s ∈ m.body, s.size ≤ 140737488351232) :=
  opens_imp (opens_iso (fun m : Msg => (m.src, m.dst, m.kind, m.pos, m.body)) (fun p => ⟨p.1, p.2.1, p.2.2.1, p.2.2.2.1, p.2.2.2.2⟩) (fun _ => rfl) (opens_struct Try.underlying32 (by kernel_rfl) (opensF_cons rfl (by kernel_rfl) o3 (opensF_cons rfl (by kernel_rfl) o3 (opensF_cons rfl (by kernel_rfl) o3 (opensF_cons rfl (by kernel_rfl) o3 (opensF_one rfl (by kernel_rfl) o30)))))))
    (fun x h => h.2.2.2.2)
theorem o34 : Opens Try.prog 34 kOp OpZ :=
  opens_imp (opens_iso (fun x : Opn => (x.what, x.at_, x.m)) (fun p => ⟨p.1, p.2.1, p.2.2⟩) (fun _ => rfl) (opens_struct Try.underlying34 (by kernel_rfl) (opensF_cons rfl (by kernel_rfl) o3 (opensF_cons rfl (by kernel_rfl) o3 (opensF_one rfl (by kernel_rfl) o32))))) (fun x h => h.2.2)
theorem o22 : Opens Try.prog 22 (Kd.slice 34 kOp) (fun xs => xs.length * 72 ≤ 140737488351232 ∧ ∀ x ∈ xs, OpZ x) := opens_slice Try.underlying22 (by kernel_rfl) (B := 72) (by kernel_rfl) o34
end Go.Proofs.Ytlnneaccgfakeaa
