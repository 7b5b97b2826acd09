/- LocksShare: called with any arguments that can be read as data, the law returns true, and every argument reads afterwards as it read before. Condition: what is read is of bulk at most 1048576. -/
import Derived.Test.YtajblhainchplaaRows
import Derived.Test.YtajblhainchplaaJ33
import Derived.Test.YtajblhainchplaaOpen
import Derived.WalkKit
import Derived.ProofKit
import Derived.OpenShut
import Derived.ShutString
import Derived.ChangeOld
import Derived.Below
import Derived.SizedLaws
import Derived.JoinedCond
import Derived.Deep.CondSized
set_option linter.unusedVariables false
set_option linter.unusedSimpArgs false
namespace Go.Proofs.Ytajblhainchplaa.locksShare
open Go.ChangeShapes Go.WideShapes Go.ChangeAt Go.RowKit Go.Proofs.Ytajblhainchplaa.Opn Go.Proofs.YtajblhainchplaaW.PrintWords
open Go.ChangeMaps (open_string shut_string)
theorem own : ownKnob Try.prog.godebug = none := by kernel_rfl
theorem laidOut : laidOutB Try.prog = true := by kernel_rfl
set_option maxRecDepth 100000 in
theorem lifted (os : Os) (started : os.Started) (H : Type) (enc : TypeId × Value → H) (F : Stop.Interp) :
    ReturnsInHanded {} Try.checked os 4 .any ((Rows.OpenSpec.upto Rows.locksShareSpec).pre6 enc Try.prog Try.f4 Rows.locksShareUptoRow.domain false) (((Rows.OpenSpec.upto Rows.locksShareSpec).at F).post enc Try.prog Try.f4 false true false false) := by
  refine returnsInHanded_of_cond_sized (C := Try.checked) (s := Rows.OpenSpec.upto Rows.locksShareSpec) (k := Rows.uptoSmall) rfl own started (by kernel_rfl) Try.func4
    (OpenSpec.witness (enc := enc) (C := Try.checked) (s := Rows.OpenSpec.upto Rows.locksShareSpec) (k := Rows.uptoSmall) rfl false ⟨#[], #[.slice none 0 0, .agg #[.int .i64 0, .string ByteArray.empty, .string ByteArray.empty, .bool false]], []⟩ 8 (by kernel_rfl) (by kernel_rfl) (by kernel_rfl) (x := ([.nil, .agg [.lit (.int .i64 0), .lit (.string []), .lit (.string []), .lit (.bool false)]], [], [])) (by kernel_rfl) rfl (by kernel_rfl)) ?_
  intro W base args ds gs before hval0 hW hcnd hk hsz0 _
  have hsz : (DataW.weightsEach Try.prog (Try.f4.params.toList ++ Rows.locksShareSpec.plain.varTypes Try.prog) (ds ++ gs)).all (· ≤ reachBytes) = true := hsz0
  have hval : ∀ (j : Nat) t v, Try.f4.params[j]? = some t → args[j]? = some v → Value.okWide Try.prog W .any base t v := hval0
  have hW' := hW
  obtain ⟨p, q, hA0, hV, rfl, hfz, hnd⟩ := hW
  have hA : DataW.TrodAll enc Try.prog W 0 (fun _ => true) true Try.f4.params.toList args.toList ds p := hA0
  rw [Try.params4] at hA hval hsz
  have hAll := hA
  obtain ⟨v0, vs0, d0, ds0, p0, q0, hargs, rfl, rfl, h0, r0⟩ := trodAll_cons hA
  obtain ⟨v1, vs1, d1, ds1, p1, q1, rfl, rfl, rfl, h1, r1⟩ := trodAll_cons r0
  obtain ⟨rfl, rfl, rfl⟩ := trodAll_nil r1
  obtain rfl : args = #[v0, v1] := by cases args; simp_all
  obtain ⟨rfl, rfl⟩ := trodVars_none hV
  obtain ⟨A0, n0, c0, rfl⟩ := okWide_slice Try.underlying27 (hval 0 27 v0 rfl rfl)
  obtain ⟨x0, ⟨A', c', hx0, hl0, hC0⟩, hZ0⟩ := arg_open (o27) hsz (j := 0) rfl rfl h0
  simp only [Value.cells, List.cons.injEq, and_true, Value.slice.injEq] at hx0
  obtain ⟨rfl, rfl, rfl⟩ := hx0
  obtain ⟨cs1, rfl, hcs1⟩ := okWide_struct Try.underlying23 (hval 1 23 v1 rfl rfl)
  obtain ⟨x1, hK1, hZ1⟩ := arg_open (o23) hsz (j := 1) rfl rfl h1
  clear hA0 hval0 hsz0 hsz
  refine (locksShare_row A0 x0.length c0 x0 cs1 x1 W hC0 hl0 hZ0 hK1 hZ1 (bulk_small hk (by simp) (bulk_slice Try.underlying27 h0))).mono fun e W' ⟨he, bel⟩ => ?_
  subst he
  exact ⟨_, rfl, _, _, _, [], _, [], hW', trodAll_mk1 (shut_bool Try.underlying4 _), trodAll_stays laidOut bel (by intro t ht; have ht' : t ∈ [27, 23] := ht; simp only [List.mem_cons, List.not_mem_nil, or_false] at ht'; rcases ht' with rfl | rfl <;> exact ⟨by kernel_rfl, of_decide_eq_true (by kernel_rfl)⟩) hAll, rfl, bel.frame _, fun h => by cases h⟩
theorem over : Rows.locksShareUptoRow.holds Try.pinned (Rows.OpenSpec.upto Rows.locksShareSpec) :=
  OpenClaim.holds_of_cond 4 Try.f4 rfl rfl rfl rfl rfl rfl rfl ⟨rfl, rfl, rfl, rfl, rfl⟩ rfl rfl rfl rfl rfl (by kernel_rfl) Try.func4 (by kernel_rfl)
    (of_decide_eq_true (by kernel_rfl)) (by unfold Func.isWrapper; first | (rw [if_pos (by decide +kernel)]; kernel_rfl) | (rw [if_neg (by decide +kernel)]; exact ⟨rfl, rfl⟩))
    (fun os started H enc _ F => lifted os started H enc F)
theorem proved : Rows.LocksShareUptoSaid := over
end Go.Proofs.Ytajblhainchplaa.locksShare
namespace Go.Proofs.Ytajblhainchplaa
theorem locksShare_upto_holds : Rows.LocksShareUptoSaid := locksShare.proved
#print axioms locksShare_upto_holds
end Go.Proofs.Ytajblhainchplaa

