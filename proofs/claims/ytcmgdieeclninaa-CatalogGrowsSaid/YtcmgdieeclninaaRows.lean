/-
  No cell of these rows narrows 'for every input' (looked for: loops, veiled, ifaces, maps, wideKeys, modest, calm, conditions, laid).
  DERIVED. THE GIVEN ROWS OF THIS SEAT. 6 by the template 'for every input the law returns true; each argument reads behind the call as it read before'; 0 by the template 'total and deterministic' (their statements: YtcmgdieeclninaaTotals.lean).
  GIVEN WITH THE SEED: the statements are not yours to turn. If you find one false, say at which input.
  Laid BY PROGRAM, IN A SANDBOX (cutbox-rows.mjs): the forced cells as the released guide's own fill.sh prints them over the translation fceef49fa8ade9bf… (all of the seat's roots in one cut). By AI agents, Wed Nov 11 2026. No macro, syntax, notation, axiom, sorry.
-/
import Derived.Test.YtcmgdieeclninaaChecked
import GoSem.Claim
import GoSem.ClaimJoined
import GoSem.ClaimMapViews
import Derived.JoinedTies
import Derived.KernelRfl
namespace Go.Proofs.Ytcmgdieeclninaa
/- THE CELL 'sum', in the pinned program and in every row, IS THE sha256 OF THE DUMP (.gsa) THAT YtcmgdieeclninaaProg.lean LOADS. Nothing in Lean hashes anything: it is a label: what it is worth is what the hold of that sum in a sandbox is worth. -/
noncomputable def Try.pinned : Pinned := { name := "ytcmgdieeclninaa", sum := "fceef49fa8ade9bff5c1d02e2f16225495ca7084561a25d3591e4ca5018d05e1", checked := Try.checked }
namespace Rows
def none {H : Type} : Left H := { results := [], args := [] }

/-- 'unisonlaw08.CatalogAdds': WHATEVER THE INPUT: true; the input reads as it did. -/
def catalogAddsSpec : ChangeSpec := { name := "catalogAdds", fn := fun _ => fun
  | [d1, d2, d3] => { results := [.lit (.bool true)], args := [d1, d2, d3] }
  | _ => none }
def catalogAddsRow : OpenClaim := { program := "ytcmgdieeclninaa", sum := "fceef49fa8ade9bff5c1d02e2f16225495ca7084561a25d3591e4ca5018d05e1", func := "unison/unisonlaw08.CatalogAdds", spec := "catalogAdds", unfollowed := true, recurses := true, apart := false }
def CatalogAddsSaid : Prop := catalogAddsRow.holds Try.pinned (OpenSpec.ofChange catalogAddsSpec)

/-- ITS FALSE NEIGHBOUR: 'it returns false'. Refute it at one input. -/
def catalogAddsWrong : ChangeSpec := { name := "catalogAdds", fn := fun _ => fun
  | [d1, d2, d3] => { results := [.lit (.bool false)], args := [d1, d2, d3] }
  | _ => none }
def CatalogAddsWrongFalsely : Prop := catalogAddsRow.holds Try.pinned (OpenSpec.ofChange catalogAddsWrong)

/-- 'unisonlaw08.CatalogGrows': WHATEVER THE INPUT: true; the input reads as it did. -/
def catalogGrowsSpec : ChangeSpec := { name := "catalogGrows", fn := fun _ => fun
  | [d1, d2] => { results := [.lit (.bool true)], args := [d1, d2] }
  | _ => none }
def catalogGrowsRow : OpenClaim := { program := "ytcmgdieeclninaa", sum := "fceef49fa8ade9bff5c1d02e2f16225495ca7084561a25d3591e4ca5018d05e1", func := "unison/unisonlaw08.CatalogGrows", spec := "catalogGrows", unfollowed := true, recurses := true, apart := false }
def CatalogGrowsSaid : Prop := catalogGrowsRow.holds Try.pinned (OpenSpec.ofChange catalogGrowsSpec)

/-- ITS FALSE NEIGHBOUR: 'it returns false'. Refute it at one input. -/
def catalogGrowsWrong : ChangeSpec := { name := "catalogGrows", fn := fun _ => fun
  | [d1, d2] => { results := [.lit (.bool false)], args := [d1, d2] }
  | _ => none }
def CatalogGrowsWrongFalsely : Prop := catalogGrowsRow.holds Try.pinned (OpenSpec.ofChange catalogGrowsWrong)

/-- 'unisonlaw08.CatalogWrites': WHATEVER THE INPUT: true; the input reads as it did. -/
def catalogWritesSpec : ChangeSpec := { name := "catalogWrites", fn := fun _ => fun
  | [d] => { results := [.lit (.bool true)], args := [d] }
  | _ => none }
def catalogWritesRow : OpenClaim := { program := "ytcmgdieeclninaa", sum := "fceef49fa8ade9bff5c1d02e2f16225495ca7084561a25d3591e4ca5018d05e1", func := "unison/unisonlaw08.CatalogWrites", spec := "catalogWrites", unfollowed := true, recurses := true, apart := false }
def CatalogWritesSaid : Prop := catalogWritesRow.holds Try.pinned (OpenSpec.ofChange catalogWritesSpec)

/-- ITS FALSE NEIGHBOUR: 'it returns false'. Refute it at one input. -/
def catalogWritesWrong : ChangeSpec := { name := "catalogWrites", fn := fun _ => fun
  | [d] => { results := [.lit (.bool false)], args := [d] }
  | _ => none }
def CatalogWritesWrongFalsely : Prop := catalogWritesRow.holds Try.pinned (OpenSpec.ofChange catalogWritesWrong)

/-- 'unisonlaw08.CatalogReads': WHATEVER THE INPUT: true; the input reads as it did. -/
def catalogReadsSpec : ChangeSpec := { name := "catalogReads", fn := fun _ => fun
  | [d] => { results := [.lit (.bool true)], args := [d] }
  | _ => none }
def catalogReadsRow : OpenClaim := { program := "ytcmgdieeclninaa", sum := "fceef49fa8ade9bff5c1d02e2f16225495ca7084561a25d3591e4ca5018d05e1", func := "unison/unisonlaw08.CatalogReads", spec := "catalogReads", unfollowed := true, recurses := true, apart := false }
def CatalogReadsSaid : Prop := catalogReadsRow.holds Try.pinned (OpenSpec.ofChange catalogReadsSpec)

/-- ITS FALSE NEIGHBOUR: 'it returns false'. Refute it at one input. -/
def catalogReadsWrong : ChangeSpec := { name := "catalogReads", fn := fun _ => fun
  | [d] => { results := [.lit (.bool false)], args := [d] }
  | _ => none }
def CatalogReadsWrongFalsely : Prop := catalogReadsRow.holds Try.pinned (OpenSpec.ofChange catalogReadsWrong)

/-- 'unisonlaw08.CatalogBack': WHATEVER THE INPUT: true; the input reads as it did. -/
def catalogBackSpec : ChangeSpec := { name := "catalogBack", fn := fun _ => fun
  | [d1, d2] => { results := [.lit (.bool true)], args := [d1, d2] }
  | _ => none }
def catalogBackRow : OpenClaim := { program := "ytcmgdieeclninaa", sum := "fceef49fa8ade9bff5c1d02e2f16225495ca7084561a25d3591e4ca5018d05e1", func := "unison/unisonlaw08.CatalogBack", spec := "catalogBack", unfollowed := true, recurses := true, apart := false }
def CatalogBackSaid : Prop := catalogBackRow.holds Try.pinned (OpenSpec.ofChange catalogBackSpec)

/-- ITS FALSE NEIGHBOUR: 'it returns false'. Refute it at one input. -/
def catalogBackWrong : ChangeSpec := { name := "catalogBack", fn := fun _ => fun
  | [d1, d2] => { results := [.lit (.bool false)], args := [d1, d2] }
  | _ => none }
def CatalogBackWrongFalsely : Prop := catalogBackRow.holds Try.pinned (OpenSpec.ofChange catalogBackWrong)

/-- 'unisonlaw08.CatalogFinds': WHATEVER THE INPUT: true; the input reads as it did. -/
def catalogFindsSpec : ChangeSpec := { name := "catalogFinds", fn := fun _ => fun
  | [d1, d2] => { results := [.lit (.bool true)], args := [d1, d2] }
  | _ => none }
def catalogFindsRow : OpenClaim := { program := "ytcmgdieeclninaa", sum := "fceef49fa8ade9bff5c1d02e2f16225495ca7084561a25d3591e4ca5018d05e1", func := "unison/unisonlaw08.CatalogFinds", spec := "catalogFinds", unfollowed := true, recurses := true, apart := false }
def CatalogFindsSaid : Prop := catalogFindsRow.holds Try.pinned (OpenSpec.ofChange catalogFindsSpec)

/-- ITS FALSE NEIGHBOUR: 'it returns false'. Refute it at one input. -/
def catalogFindsWrong : ChangeSpec := { name := "catalogFinds", fn := fun _ => fun
  | [d1, d2] => { results := [.lit (.bool false)], args := [d1, d2] }
  | _ => none }
def CatalogFindsWrongFalsely : Prop := catalogFindsRow.holds Try.pinned (OpenSpec.ofChange catalogFindsWrong)

/- THE SECOND FORM. 'bulk': how many values and letters a reading holds, each counted each time it is reached (what is shared counts as often as it is met; a slice's spare places count too). A statement '..UptoSaid' is the law's where the arguments, and the package variables that the reading takes, are together of bulk at most 1048576: NARROWER than '..Said'. Prove '..Said' where nothing that the law and all that it calls make is longer than what came in: it says more and counts as full. Else prove '..UptoSaid'. A law counts once. -/
mutual
def uptoBulk {H : Type} : DataW H → Nat
  | .lit (.string bytes) => bytes.length + 1
  | .lit _ => 1
  | .nil => 1
  | .ptr d => uptoBulk d + 1
  | .slice elems spare => uptoBulkAll elems + uptoBulkAll spare + 1
  | .agg parts => uptoBulkAll parts + 1
  | .iface _ d => uptoBulk d + 1
  | .map entries => uptoBulkEntries entries + 1
  | .held _ => 1
def uptoBulkAll {H : Type} : List (DataW H) → Nat
  | [] => 0
  | d :: r => uptoBulk d + uptoBulkAll r
def uptoBulkEntries {H : Type} : List (Lit × DataW H) → Nat
  | [] => 0
  | x :: r => uptoBulkEntry x + uptoBulkEntries r
def uptoBulkEntry {H : Type} : Lit × DataW H → Nat
  | (.string bytes, d) => bytes.length + uptoBulk d + 1
  | (_, d) => uptoBulk d + 1
 end
def uptoSmall : (H : Type) → List (DataW H) → Bool := fun _ ds => decide (uptoBulkAll ds ≤ 1048576)
def OpenSpec.upto (s : _root_.Go.ChangeSpec) : _root_.Go.OpenSpec := { _root_.Go.OpenSpec.ofChange s with cond := some uptoSmall }

/-- 'unisonlaw08.CatalogAdds', WHERE WHAT IT READS IS OF BULK AT MOST 1048576: true; the input reads as it did. -/
def catalogAddsUptoRow : OpenClaim := { program := "ytcmgdieeclninaa", sum := "fceef49fa8ade9bff5c1d02e2f16225495ca7084561a25d3591e4ca5018d05e1", func := "unison/unisonlaw08.CatalogAdds", spec := "catalogAdds", unfollowed := true, recurses := true, apart := false, narrowed := true }
def CatalogAddsUptoSaid : Prop := catalogAddsUptoRow.holds Try.pinned (OpenSpec.upto catalogAddsSpec)

/-- 'unisonlaw08.CatalogGrows', WHERE WHAT IT READS IS OF BULK AT MOST 1048576: true; the input reads as it did. -/
def catalogGrowsUptoRow : OpenClaim := { program := "ytcmgdieeclninaa", sum := "fceef49fa8ade9bff5c1d02e2f16225495ca7084561a25d3591e4ca5018d05e1", func := "unison/unisonlaw08.CatalogGrows", spec := "catalogGrows", unfollowed := true, recurses := true, apart := false, narrowed := true }
def CatalogGrowsUptoSaid : Prop := catalogGrowsUptoRow.holds Try.pinned (OpenSpec.upto catalogGrowsSpec)

/-- 'unisonlaw08.CatalogWrites', WHERE WHAT IT READS IS OF BULK AT MOST 1048576: true; the input reads as it did. -/
def catalogWritesUptoRow : OpenClaim := { program := "ytcmgdieeclninaa", sum := "fceef49fa8ade9bff5c1d02e2f16225495ca7084561a25d3591e4ca5018d05e1", func := "unison/unisonlaw08.CatalogWrites", spec := "catalogWrites", unfollowed := true, recurses := true, apart := false, narrowed := true }
def CatalogWritesUptoSaid : Prop := catalogWritesUptoRow.holds Try.pinned (OpenSpec.upto catalogWritesSpec)

/-- 'unisonlaw08.CatalogReads', WHERE WHAT IT READS IS OF BULK AT MOST 1048576: true; the input reads as it did. -/
def catalogReadsUptoRow : OpenClaim := { program := "ytcmgdieeclninaa", sum := "fceef49fa8ade9bff5c1d02e2f16225495ca7084561a25d3591e4ca5018d05e1", func := "unison/unisonlaw08.CatalogReads", spec := "catalogReads", unfollowed := true, recurses := true, apart := false, narrowed := true }
def CatalogReadsUptoSaid : Prop := catalogReadsUptoRow.holds Try.pinned (OpenSpec.upto catalogReadsSpec)

/-- 'unisonlaw08.CatalogBack', WHERE WHAT IT READS IS OF BULK AT MOST 1048576: true; the input reads as it did. -/
def catalogBackUptoRow : OpenClaim := { program := "ytcmgdieeclninaa", sum := "fceef49fa8ade9bff5c1d02e2f16225495ca7084561a25d3591e4ca5018d05e1", func := "unison/unisonlaw08.CatalogBack", spec := "catalogBack", unfollowed := true, recurses := true, apart := false, narrowed := true }
def CatalogBackUptoSaid : Prop := catalogBackUptoRow.holds Try.pinned (OpenSpec.upto catalogBackSpec)

/-- 'unisonlaw08.CatalogFinds', WHERE WHAT IT READS IS OF BULK AT MOST 1048576: true; the input reads as it did. -/
def catalogFindsUptoRow : OpenClaim := { program := "ytcmgdieeclninaa", sum := "fceef49fa8ade9bff5c1d02e2f16225495ca7084561a25d3591e4ca5018d05e1", func := "unison/unisonlaw08.CatalogFinds", spec := "catalogFinds", unfollowed := true, recurses := true, apart := false, narrowed := true }
def CatalogFindsUptoSaid : Prop := catalogFindsUptoRow.holds Try.pinned (OpenSpec.upto catalogFindsSpec)

end Rows
end Go.Proofs.Ytcmgdieeclninaa
