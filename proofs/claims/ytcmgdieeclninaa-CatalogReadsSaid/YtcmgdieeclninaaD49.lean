/- Layer 08: D49 the laws' arguments -/
import Derived.Test.YtcmgdieeclninaaD48
import Derived.Test.YtcmgdieeclninaaOpen
set_option linter.unusedVariables false
set_option linter.unusedSimpArgs false
namespace Go.Proofs.Ytcmgdieeclninaa
open Go.RowKit Go.Proofs.YtcmgdieeclninaaW.PrintWords Go.Proofs.Ytcmgdieeclninaa.Opn
attribute [local irreducible] Opens OpensF
theorem o9 : Opens Try.prog 9 Kd.string (fun s => s.size ≤ 140737488351232) := opens_string Try.underlying9
theorem o3 : Opens Try.prog 3 (Kd.int .i64) (fun _ => True) := opens_imp (opens_int Try.underlying3) (fun _ _ => trivial)
theorem o4 : Opens Try.prog 4 Kd.bool (fun _ => True) := opens_bool Try.underlying4
theorem o27 : Opens Try.prog 27 (Kd.slice 3 (Kd.int .i64)) (fun xs => xs.length * 8 ≤ 140737488351232) := opens_imp (opens_slice Try.underlying27 (by kernel_rfl) (B := 8) (by kernel_rfl) o3) (fun _ h => h.1)
theorem o62 : Opens Try.prog 62 kCol (fun c => c.name.size ≤ 140737488351232) :=
  opens_imp (opens_iso (fun c : Col => (c.name, c.type, c.notNull)) (fun p => ⟨p.1, p.2.1, p.2.2⟩) (fun _ => rfl) (opens_struct Try.underlying62 (by kernel_rfl) (opensF_cons rfl (by kernel_rfl) o9 (opensF_cons (Z := fun _ => True) rfl (by kernel_rfl) (opens_imp (opens_int (k := .i64) (by kernel_rfl)) (fun _ _ => trivial)) (opensF_one (Z := fun _ => True) rfl (by kernel_rfl) o4))))) (fun x h => h.1)
theorem o26 : Opens Try.prog 26 (Kd.slice 62 kCol) (fun xs => xs.length * 32 ≤ 140737488351232 ∧ ∀ x ∈ xs, x.name.size ≤ 140737488351232) := opens_slice Try.underlying26 (by kernel_rfl) (B := 32) (by kernel_rfl) o62
theorem o64 : Opens Try.prog 64 kIdx (fun c => c.name.size ≤ 140737488351232 ∧ c.columns.length * 8 ≤ 140737488351232) :=
  opens_imp (opens_iso (fun c : Idx => (c.name, c.columns, c.unique)) (fun p => ⟨p.1, p.2.1, p.2.2⟩) (fun _ => rfl) (opens_struct Try.underlying64 (by kernel_rfl) (opensF_cons rfl (by kernel_rfl) o9 (opensF_cons rfl (by kernel_rfl) o27 (opensF_one rfl (by kernel_rfl) o4))))) (fun x h => ⟨h.1, h.2.1⟩)
theorem o28 : Opens Try.prog 28 (Kd.slice 64 kIdx) (fun xs => xs.length * 48 ≤ 140737488351232 ∧ ∀ x ∈ xs, x.name.size ≤ 140737488351232 ∧ x.columns.length * 8 ≤ 140737488351232) := opens_slice Try.underlying28 (by kernel_rfl) (B := 48) (by kernel_rfl) o64
theorem o30 : Opens Try.prog 30 kTab (fun t => SzTab t ∧ BdTab t) :=
  opens_imp (opens_iso (fun t : Tab => (t.name, t.cols, t.key, t.part, t.idx)) (fun p => ⟨p.1, p.2.1, p.2.2.1, p.2.2.2.1, p.2.2.2.2⟩) (fun _ => rfl) (opens_struct Try.underlying30 (by kernel_rfl) (opensF_cons rfl (by kernel_rfl) o9 (opensF_cons rfl (by kernel_rfl) o26 (opensF_cons rfl (by kernel_rfl) o27 (opensF_cons rfl (by kernel_rfl) o3 (opensF_one rfl (by kernel_rfl) o28)))))))
    (fun x h => ⟨⟨h.2.1.1, h.2.2.1, h.2.2.2.2.1, fun y hy => (h.2.2.2.2.2 y hy).2⟩, ⟨h.1, h.2.1.2, fun y hy => (h.2.2.2.2.2 y hy).1⟩⟩)
theorem o66 : Opens Try.prog 66 kPrm (fun c => c.name.size ≤ 140737488351232) :=
  opens_imp (opens_iso (fun c : Prm => (c.name, c.type)) (fun p => ⟨p.1, p.2⟩) (fun _ => rfl) (opens_struct Try.underlying66 (by kernel_rfl) (opensF_cons rfl (by kernel_rfl) o9 (opensF_one rfl (by kernel_rfl) o3)))) (fun x h => h.1)
theorem o31 : Opens Try.prog 31 (Kd.slice 66 kPrm) (fun xs => xs.length * 24 ≤ 140737488351232 ∧ ∀ x ∈ xs, x.name.size ≤ 140737488351232) := opens_slice Try.underlying31 (by kernel_rfl) (B := 24) (by kernel_rfl) o66
theorem o32 : Opens Try.prog 32 (Kd.slice 9 Kd.string) (fun xs => xs.length * 16 ≤ 140737488351232 ∧ ∀ x ∈ xs, x.size ≤ 140737488351232) := opens_slice Try.underlying32 (by kernel_rfl) (B := 16) (by kernel_rfl) o9
theorem o34 : Opens Try.prog 34 kPrc (fun t => SzPrc t ∧ BdPrc t) :=
  opens_imp (opens_iso (fun p : Prc => (p.name, p.params, p.body, p.rows, p.bytes)) (fun p => ⟨p.1, p.2.1, p.2.2.1, p.2.2.2.1, p.2.2.2.2⟩) (fun _ => rfl) (opens_struct Try.underlying34 (by kernel_rfl) (opensF_cons rfl (by kernel_rfl) o9 (opensF_cons rfl (by kernel_rfl) o31 (opensF_cons rfl (by kernel_rfl) o32 (opensF_cons rfl (by kernel_rfl) o3 (opensF_one rfl (by kernel_rfl) o3)))))))
    (fun x h => ⟨⟨h.2.1.1, h.2.2.1.1⟩, ⟨h.1, h.2.1.2, h.2.2.1.2⟩⟩)
theorem o22 : Opens Try.prog 22 (Kd.slice 30 kTab) (fun xs => xs.length * 96 ≤ 140737488351232 ∧ ∀ x ∈ xs, SzTab x ∧ BdTab x) := opens_slice Try.underlying22 (by kernel_rfl) (B := 96) (by kernel_rfl) o30
theorem o23 : Opens Try.prog 23 (Kd.slice 34 kPrc) (fun xs => xs.length * 80 ≤ 140737488351232 ∧ ∀ x ∈ xs, SzPrc x ∧ BdPrc x) := opens_slice Try.underlying23 (by kernel_rfl) (B := 80) (by kernel_rfl) o34
theorem o25 : Opens Try.prog 25 kCat (fun c => SzCat c ∧ BdCat c) :=
  opens_imp (opens_iso (fun c : Cat => (c.tables, c.procs)) (fun p => ⟨p.1, p.2⟩) (fun _ => rfl) (opens_struct Try.underlying25 (by kernel_rfl) (opensF_cons rfl (by kernel_rfl) o22 (opensF_one rfl (by kernel_rfl) o23))))
    (fun x h => ⟨⟨h.1.1, h.2.1, fun t ht => (h.1.2 t ht).1, fun p hp => (h.2.2 p hp).1⟩, ⟨fun t ht => (h.1.2 t ht).2, fun p hp => (h.2.2 p hp).2⟩⟩)
/-- A catalog argument's cells. -/
theorem kCat_open {W : World} {c : Cat} {cs : Array Value} (h : kCat.K W c cs.toList) : ∃ A1 d1 A2 d2, cs = #[.slice A1 c.tables.length d1, .slice A2 c.procs.length d2] ∧ (kTab.C W A1 c.tables.length c.tables ∧ c.tables.length ≤ d1) ∧ (kPrc.C W A2 c.procs.length c.procs ∧ c.procs.length ≤ d2) := by
  obtain ⟨c0, c1, he, ⟨A1, d1, rfl, l1, h1⟩, A2, d2, rfl, l2, h2⟩ := h
  refine ⟨A1, d1, A2, d2, ?_, ⟨h1, l1⟩, h2, l2⟩
  cases cs; simpa using he
theorem kTab_open {W : World} {t : Tab} {cs : Array Value} (h : kTab.K W t cs.toList) : ∃ A1 d1 A2 d2 A3 d3, cs = #[.string t.name, .slice A1 t.cols.length d1, .slice A2 t.key.length d2, .int .i64 t.part, .slice A3 t.idx.length d3] ∧ (kCol.C W A1 t.cols.length t.cols ∧ t.cols.length ≤ d1) ∧ ((Kd.int .i64).C W A2 t.key.length t.key ∧ t.key.length ≤ d2) ∧ (kIdx.C W A3 t.idx.length t.idx ∧ t.idx.length ≤ d3) := by
  obtain ⟨v1, v2, v3, he, ⟨A1, d1, rfl, l1, h1⟩, ⟨A2, d2, rfl, l2, h2⟩, A3, d3, rfl, l3, h3⟩ := kTab_K.1 h
  refine ⟨A1, d1, A2, d2, A3, d3, ?_, ⟨h1, l1⟩, ⟨h2, l2⟩, h3, l3⟩
  cases cs; simpa using he
theorem kPrc_open {W : World} {t : Prc} {cs : Array Value} (h : kPrc.K W t cs.toList) : ∃ A1 d1 A2 d2, cs = #[.string t.name, .slice A1 t.params.length d1, .slice A2 t.body.length d2, .int .i64 t.rows, .int .i64 t.bytes] ∧ (kPrm.C W A1 t.params.length t.params ∧ t.params.length ≤ d1) ∧ (Kd.string.C W A2 t.body.length t.body ∧ t.body.length ≤ d2) := by
  obtain ⟨v1, v2, he, ⟨A1, d1, rfl, l1, h1⟩, A2, d2, rfl, l2, h2⟩ := kPrc_K.1 h
  refine ⟨A1, d1, A2, d2, ?_, ⟨h1, l1⟩, h2, l2⟩
  cases cs; simpa using he
theorem kPrc_one {w : World} {t : Prc} {A1 A2 : Option Addr} {d1 d2 : Nat} (h1 : kPrm.C w A1 t.params.length t.params) (l1 : t.params.length ≤ d1) (h2 : Kd.string.C w A2 t.body.length t.body) (l2 : t.body.length ≤ d2) :
    kPrc.K w t [.string t.name, .slice A1 t.params.length d1, .slice A2 t.body.length d2, .int .i64 t.rows, .int .i64 t.bytes] :=
  kPrc_K.2 ⟨_, _, rfl, ⟨A1, d1, rfl, l1, h1⟩, ⟨A2, d2, rfl, l2, h2⟩⟩
end Go.Proofs.Ytcmgdieeclninaa
