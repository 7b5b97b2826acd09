/-
  No cell of these rows narrows 'for every input' (looked for: loops, veiled, ifaces, maps, wideKeys, modest, calm, conditions, laid).
  DERIVED. THE GIVEN ROWS OF THIS SEAT. 4 by the template 'for every input the law returns true; each argument reads behind the call as it read before'; 0 by the template 'total and deterministic' (their statements: YtajblhainchplaaTotals.lean).
  GIVEN WITH THE SEED: the statements are not yours to turn. If you find one false, say at which input.
  Laid BY PROGRAM, IN A SANDBOX (cutbox-rows.mjs): the forced cells as the released guide's own fill.sh prints them over the translation 6c8f4134d6d0caf9… (all of the seat's roots in one cut). By AI agents, Wed Nov 11 2026. No macro, syntax, notation, axiom, sorry.
-/
import Derived.Test.YtajblhainchplaaChecked
import GoSem.Claim
import GoSem.ClaimJoined
import GoSem.ClaimMapViews
import Derived.JoinedTies
import Derived.KernelRfl
namespace Go.Proofs.Ytajblhainchplaa
/- THE CELL 'sum', in the pinned program and in every row, IS THE sha256 OF THE DUMP (.gsa) THAT YtajblhainchplaaProg.lean LOADS. Nothing in Lean hashes anything: it is a label: what it is worth is what the hold of that sum in a sandbox is worth. -/
noncomputable def Try.pinned : Pinned := { name := "ytajblhainchplaa", sum := "6c8f4134d6d0caf9423b5a0d4b8982865c65565eb775a32451774fc07f582623", checked := Try.checked }
namespace Rows
def none {H : Type} : Left H := { results := [], args := [] }

/-- 'unisonlaw19.LocksMeet': WHATEVER THE INPUT: true; the input reads as it did. -/
def locksMeetSpec : ChangeSpec := { name := "locksMeet", fn := fun _ => fun
  | [d1, d2] => { results := [.lit (.bool true)], args := [d1, d2] }
  | _ => none }
def locksMeetRow : OpenClaim := { program := "ytajblhainchplaa", sum := "6c8f4134d6d0caf9423b5a0d4b8982865c65565eb775a32451774fc07f582623", func := "unison/unisonlaw19.LocksMeet", spec := "locksMeet", unfollowed := true, recurses := true, apart := false }
def LocksMeetSaid : Prop := locksMeetRow.holds Try.pinned (OpenSpec.ofChange locksMeetSpec)

/-- ITS FALSE NEIGHBOUR: 'it returns false'. Refute it at one input. -/
def locksMeetWrong : ChangeSpec := { name := "locksMeet", fn := fun _ => fun
  | [d1, d2] => { results := [.lit (.bool false)], args := [d1, d2] }
  | _ => none }
def LocksMeetWrongFalsely : Prop := locksMeetRow.holds Try.pinned (OpenSpec.ofChange locksMeetWrong)

/-- 'unisonlaw19.LocksShare': WHATEVER THE INPUT: true; the input reads as it did. -/
def locksShareSpec : ChangeSpec := { name := "locksShare", fn := fun _ => fun
  | [d1, d2] => { results := [.lit (.bool true)], args := [d1, d2] }
  | _ => none }
def locksShareRow : OpenClaim := { program := "ytajblhainchplaa", sum := "6c8f4134d6d0caf9423b5a0d4b8982865c65565eb775a32451774fc07f582623", func := "unison/unisonlaw19.LocksShare", spec := "locksShare", unfollowed := true, recurses := true, apart := false }
def LocksShareSaid : Prop := locksShareRow.holds Try.pinned (OpenSpec.ofChange locksShareSpec)

/-- ITS FALSE NEIGHBOUR: 'it returns false'. Refute it at one input. -/
def locksShareWrong : ChangeSpec := { name := "locksShare", fn := fun _ => fun
  | [d1, d2] => { results := [.lit (.bool false)], args := [d1, d2] }
  | _ => none }
def LocksShareWrongFalsely : Prop := locksShareRow.holds Try.pinned (OpenSpec.ofChange locksShareWrong)

/-- 'unisonlaw19.LocksEnd': WHATEVER THE INPUT: true; the input reads as it did. -/
def locksEndSpec : ChangeSpec := { name := "locksEnd", fn := fun _ => fun
  | [d1, d2] => { results := [.lit (.bool true)], args := [d1, d2] }
  | _ => none }
def locksEndRow : OpenClaim := { program := "ytajblhainchplaa", sum := "6c8f4134d6d0caf9423b5a0d4b8982865c65565eb775a32451774fc07f582623", func := "unison/unisonlaw19.LocksEnd", spec := "locksEnd", unfollowed := true, recurses := true, apart := false }
def LocksEndSaid : Prop := locksEndRow.holds Try.pinned (OpenSpec.ofChange locksEndSpec)

/-- ITS FALSE NEIGHBOUR: 'it returns false'. Refute it at one input. -/
def locksEndWrong : ChangeSpec := { name := "locksEnd", fn := fun _ => fun
  | [d1, d2] => { results := [.lit (.bool false)], args := [d1, d2] }
  | _ => none }
def LocksEndWrongFalsely : Prop := locksEndRow.holds Try.pinned (OpenSpec.ofChange locksEndWrong)

/-- 'unisonlaw19.LocksPlays': WHATEVER THE INPUT: true; the input reads as it did. -/
def locksPlaysSpec : ChangeSpec := { name := "locksPlays", fn := fun _ => fun
  | [d] => { results := [.lit (.bool true)], args := [d] }
  | _ => none }
def locksPlaysRow : OpenClaim := { program := "ytajblhainchplaa", sum := "6c8f4134d6d0caf9423b5a0d4b8982865c65565eb775a32451774fc07f582623", func := "unison/unisonlaw19.LocksPlays", spec := "locksPlays", unfollowed := true, recurses := true, apart := false }
def LocksPlaysSaid : Prop := locksPlaysRow.holds Try.pinned (OpenSpec.ofChange locksPlaysSpec)

/-- ITS FALSE NEIGHBOUR: 'it returns false'. Refute it at one input. -/
def locksPlaysWrong : ChangeSpec := { name := "locksPlays", fn := fun _ => fun
  | [d] => { results := [.lit (.bool false)], args := [d] }
  | _ => none }
def LocksPlaysWrongFalsely : Prop := locksPlaysRow.holds Try.pinned (OpenSpec.ofChange locksPlaysWrong)

/- THE SECOND FORM. 'bulk': how many values and letters a reading holds, each counted each time it is reached (what is shared counts as often as it is met; a slice's spare places count too). A statement '..UptoSaid' is the law's where the arguments, and the package variables that the reading takes, are together of bulk at most 1048576: NARROWER than '..Said'. Prove '..Said' where nothing that the law and all that it calls make is longer than what came in: it says more and counts as full. Else prove '..UptoSaid'. A law counts once. -/
mutual
def uptoBulk {H : Type} : DataW H → Nat
  | .lit (.string bytes) => bytes.length + 1
  | .lit _ => 1
  | .nil => 1
  | .ptr d => uptoBulk d + 1
  | .slice elems spare => uptoBulkAll elems + uptoBulkAll spare + 1
  | .agg parts => uptoBulkAll parts + 1
  | .iface _ d => uptoBulk d + 1
  | .map entries => uptoBulkEntries entries + 1
  | .held _ => 1
def uptoBulkAll {H : Type} : List (DataW H) → Nat
  | [] => 0
  | d :: r => uptoBulk d + uptoBulkAll r
def uptoBulkEntries {H : Type} : List (Lit × DataW H) → Nat
  | [] => 0
  | x :: r => uptoBulkEntry x + uptoBulkEntries r
def uptoBulkEntry {H : Type} : Lit × DataW H → Nat
  | (.string bytes, d) => bytes.length + uptoBulk d + 1
  | (_, d) => uptoBulk d + 1
 end
def uptoSmall : (H : Type) → List (DataW H) → Bool := fun _ ds => decide (uptoBulkAll ds ≤ 1048576)
def OpenSpec.upto (s : _root_.Go.ChangeSpec) : _root_.Go.OpenSpec := { _root_.Go.OpenSpec.ofChange s with cond := some uptoSmall }

/-- 'unisonlaw19.LocksMeet', WHERE WHAT IT READS IS OF BULK AT MOST 1048576: true; the input reads as it did. -/
def locksMeetUptoRow : OpenClaim := { program := "ytajblhainchplaa", sum := "6c8f4134d6d0caf9423b5a0d4b8982865c65565eb775a32451774fc07f582623", func := "unison/unisonlaw19.LocksMeet", spec := "locksMeet", unfollowed := true, recurses := true, apart := false, narrowed := true }
def LocksMeetUptoSaid : Prop := locksMeetUptoRow.holds Try.pinned (OpenSpec.upto locksMeetSpec)

/-- 'unisonlaw19.LocksShare', WHERE WHAT IT READS IS OF BULK AT MOST 1048576: true; the input reads as it did. -/
def locksShareUptoRow : OpenClaim := { program := "ytajblhainchplaa", sum := "6c8f4134d6d0caf9423b5a0d4b8982865c65565eb775a32451774fc07f582623", func := "unison/unisonlaw19.LocksShare", spec := "locksShare", unfollowed := true, recurses := true, apart := false, narrowed := true }
def LocksShareUptoSaid : Prop := locksShareUptoRow.holds Try.pinned (OpenSpec.upto locksShareSpec)

/-- 'unisonlaw19.LocksEnd', WHERE WHAT IT READS IS OF BULK AT MOST 1048576: true; the input reads as it did. -/
def locksEndUptoRow : OpenClaim := { program := "ytajblhainchplaa", sum := "6c8f4134d6d0caf9423b5a0d4b8982865c65565eb775a32451774fc07f582623", func := "unison/unisonlaw19.LocksEnd", spec := "locksEnd", unfollowed := true, recurses := true, apart := false, narrowed := true }
def LocksEndUptoSaid : Prop := locksEndUptoRow.holds Try.pinned (OpenSpec.upto locksEndSpec)

/-- 'unisonlaw19.LocksPlays', WHERE WHAT IT READS IS OF BULK AT MOST 1048576: true; the input reads as it did. -/
def locksPlaysUptoRow : OpenClaim := { program := "ytajblhainchplaa", sum := "6c8f4134d6d0caf9423b5a0d4b8982865c65565eb775a32451774fc07f582623", func := "unison/unisonlaw19.LocksPlays", spec := "locksPlays", unfollowed := true, recurses := true, apart := false, narrowed := true }
def LocksPlaysUptoSaid : Prop := locksPlaysUptoRow.holds Try.pinned (OpenSpec.upto locksPlaysSpec)

end Rows
end Go.Proofs.Ytajblhainchplaa
