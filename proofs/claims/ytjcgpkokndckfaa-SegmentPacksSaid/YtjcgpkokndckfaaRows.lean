/-
  No cell of these rows narrows 'for every input' (looked for: loops, veiled, ifaces, maps, wideKeys, modest, calm, conditions, laid).
  DERIVED. THE GIVEN ROWS OF THIS SEAT. 5 by the template 'for every input the law returns true; each argument reads behind the call as it read before'; 0 by the template 'total and deterministic' (their statements: YtjcgpkokndckfaaTotals.lean).
  GIVEN WITH THE SEED: the statements are not yours to turn. If you find one false, say at which input.
  Laid BY PROGRAM, IN A SANDBOX (cutbox-rows.mjs): the forced cells as the released guide's own fill.sh prints them over the translation 720c4f8c34d713e8… (all of the seat's roots in one cut). By AI agents, Wed Nov 11 2026. No macro, syntax, notation, axiom, sorry.
-/
import Derived.Test.YtjcgpkokndckfaaChecked
import GoSem.Claim
import GoSem.ClaimJoined
import GoSem.ClaimMapViews
import Derived.JoinedTies
import Derived.KernelRfl
namespace Go.Proofs.Ytjcgpkokndckfaa
/- THE CELL 'sum', in the pinned program and in every row, IS THE sha256 OF THE DUMP (.gsa) THAT YtjcgpkokndckfaaProg.lean LOADS. Nothing in Lean hashes anything: it is a label: what it is worth is what the hold of that sum in a sandbox is worth. -/
noncomputable def Try.pinned : Pinned := { name := "ytjcgpkokndckfaa", sum := "720c4f8c34d713e8a83f3554ba72c5455abb22488eefcc825ad4be880b7e5720", checked := Try.checked }
namespace Rows
def none {H : Type} : Left H := { results := [], args := [] }

/-- 'drawloomlaw08.SegmentNames': WHATEVER THE INPUT: true; the input reads as it did. -/
def segmentNamesSpec : ChangeSpec := { name := "segmentNames", fn := fun _ => fun
  | [] => { results := [.lit (.bool true)], args := [] }
  | _ => none }
def segmentNamesRow : OpenClaim := { program := "ytjcgpkokndckfaa", sum := "720c4f8c34d713e8a83f3554ba72c5455abb22488eefcc825ad4be880b7e5720", func := "drawloom/drawloomlaw08.SegmentNames", spec := "segmentNames", plainKeys := false, apart := false }
def SegmentNamesSaid : Prop := segmentNamesRow.holds Try.pinned (OpenSpec.ofChange segmentNamesSpec)

/-- ITS FALSE NEIGHBOUR: 'it returns false'. Refute it at one input. -/
def segmentNamesWrong : ChangeSpec := { name := "segmentNames", fn := fun _ => fun
  | [] => { results := [.lit (.bool false)], args := [] }
  | _ => none }
def SegmentNamesWrongFalsely : Prop := segmentNamesRow.holds Try.pinned (OpenSpec.ofChange segmentNamesWrong)

/-- 'drawloomlaw08.SegmentParses': WHATEVER THE INPUT: true; the input reads as it did. -/
def segmentParsesSpec : ChangeSpec := { name := "segmentParses", fn := fun _ => fun
  | [d1, d2] => { results := [.lit (.bool true)], args := [d1, d2] }
  | _ => none }
def segmentParsesRow : OpenClaim := { program := "ytjcgpkokndckfaa", sum := "720c4f8c34d713e8a83f3554ba72c5455abb22488eefcc825ad4be880b7e5720", func := "drawloom/drawloomlaw08.SegmentParses", spec := "segmentParses", plainKeys := false, apart := false }
def SegmentParsesSaid : Prop := segmentParsesRow.holds Try.pinned (OpenSpec.ofChange segmentParsesSpec)

/-- ITS FALSE NEIGHBOUR: 'it returns false'. Refute it at one input. -/
def segmentParsesWrong : ChangeSpec := { name := "segmentParses", fn := fun _ => fun
  | [d1, d2] => { results := [.lit (.bool false)], args := [d1, d2] }
  | _ => none }
def SegmentParsesWrongFalsely : Prop := segmentParsesRow.holds Try.pinned (OpenSpec.ofChange segmentParsesWrong)

/-- 'drawloomlaw08.SegmentFalls': WHATEVER THE INPUT: true; the input reads as it did. -/
def segmentFallsSpec : ChangeSpec := { name := "segmentFalls", fn := fun _ => fun
  | [d1, d2, d3] => { results := [.lit (.bool true)], args := [d1, d2, d3] }
  | _ => none }
def segmentFallsRow : OpenClaim := { program := "ytjcgpkokndckfaa", sum := "720c4f8c34d713e8a83f3554ba72c5455abb22488eefcc825ad4be880b7e5720", func := "drawloom/drawloomlaw08.SegmentFalls", spec := "segmentFalls", plainKeys := false, apart := false }
def SegmentFallsSaid : Prop := segmentFallsRow.holds Try.pinned (OpenSpec.ofChange segmentFallsSpec)

/-- ITS FALSE NEIGHBOUR: 'it returns false'. Refute it at one input. -/
def segmentFallsWrong : ChangeSpec := { name := "segmentFalls", fn := fun _ => fun
  | [d1, d2, d3] => { results := [.lit (.bool false)], args := [d1, d2, d3] }
  | _ => none }
def SegmentFallsWrongFalsely : Prop := segmentFallsRow.holds Try.pinned (OpenSpec.ofChange segmentFallsWrong)

/-- 'drawloomlaw08.SegmentBounds': WHATEVER THE INPUT: true; the input reads as it did. -/
def segmentBoundsSpec : ChangeSpec := { name := "segmentBounds", fn := fun _ => fun
  | [d1, d2, d3] => { results := [.lit (.bool true)], args := [d1, d2, d3] }
  | _ => none }
def segmentBoundsRow : OpenClaim := { program := "ytjcgpkokndckfaa", sum := "720c4f8c34d713e8a83f3554ba72c5455abb22488eefcc825ad4be880b7e5720", func := "drawloom/drawloomlaw08.SegmentBounds", spec := "segmentBounds", plainKeys := false, apart := false }
def SegmentBoundsSaid : Prop := segmentBoundsRow.holds Try.pinned (OpenSpec.ofChange segmentBoundsSpec)

/-- ITS FALSE NEIGHBOUR: 'it returns false'. Refute it at one input. -/
def segmentBoundsWrong : ChangeSpec := { name := "segmentBounds", fn := fun _ => fun
  | [d1, d2, d3] => { results := [.lit (.bool false)], args := [d1, d2, d3] }
  | _ => none }
def SegmentBoundsWrongFalsely : Prop := segmentBoundsRow.holds Try.pinned (OpenSpec.ofChange segmentBoundsWrong)

/-- 'drawloomlaw08.SegmentPacks': WHATEVER THE INPUT: true; the input reads as it did. -/
def segmentPacksSpec : ChangeSpec := { name := "segmentPacks", fn := fun _ => fun
  | [d] => { results := [.lit (.bool true)], args := [d] }
  | _ => none }
def segmentPacksRow : OpenClaim := { program := "ytjcgpkokndckfaa", sum := "720c4f8c34d713e8a83f3554ba72c5455abb22488eefcc825ad4be880b7e5720", func := "drawloom/drawloomlaw08.SegmentPacks", spec := "segmentPacks", plainKeys := false, apart := false }
def SegmentPacksSaid : Prop := segmentPacksRow.holds Try.pinned (OpenSpec.ofChange segmentPacksSpec)

/-- ITS FALSE NEIGHBOUR: 'it returns false'. Refute it at one input. -/
def segmentPacksWrong : ChangeSpec := { name := "segmentPacks", fn := fun _ => fun
  | [d] => { results := [.lit (.bool false)], args := [d] }
  | _ => none }
def SegmentPacksWrongFalsely : Prop := segmentPacksRow.holds Try.pinned (OpenSpec.ofChange segmentPacksWrong)

/- THE SECOND FORM. 'bulk': how many values and letters a reading holds, each counted each time it is reached (what is shared counts as often as it is met; a slice's spare places count too). A statement '..UptoSaid' is the law's where the arguments, and the package variables that the reading takes, are together of bulk at most 1048576: NARROWER than '..Said'. Prove '..Said' where nothing that the law and all that it calls make is longer than what came in: it says more and counts as full. Else prove '..UptoSaid'. A law counts once. -/
mutual
def uptoBulk {H : Type} : DataW H → Nat
  | .lit (.string bytes) => bytes.length + 1
  | .lit _ => 1
  | .nil => 1
  | .ptr d => uptoBulk d + 1
  | .slice elems spare => uptoBulkAll elems + uptoBulkAll spare + 1
  | .agg parts => uptoBulkAll parts + 1
  | .iface _ d => uptoBulk d + 1
  | .map entries => uptoBulkEntries entries + 1
  | .held _ => 1
def uptoBulkAll {H : Type} : List (DataW H) → Nat
  | [] => 0
  | d :: r => uptoBulk d + uptoBulkAll r
def uptoBulkEntries {H : Type} : List (Lit × DataW H) → Nat
  | [] => 0
  | x :: r => uptoBulkEntry x + uptoBulkEntries r
def uptoBulkEntry {H : Type} : Lit × DataW H → Nat
  | (.string bytes, d) => bytes.length + uptoBulk d + 1
  | (_, d) => uptoBulk d + 1
 end
def uptoSmall : (H : Type) → List (DataW H) → Bool := fun _ ds => decide (uptoBulkAll ds ≤ 1048576)
def OpenSpec.upto (s : _root_.Go.ChangeSpec) : _root_.Go.OpenSpec := { _root_.Go.OpenSpec.ofChange s with cond := some uptoSmall }

/-- 'drawloomlaw08.SegmentNames', WHERE WHAT IT READS IS OF BULK AT MOST 1048576: true; the input reads as it did. -/
def segmentNamesUptoRow : OpenClaim := { program := "ytjcgpkokndckfaa", sum := "720c4f8c34d713e8a83f3554ba72c5455abb22488eefcc825ad4be880b7e5720", func := "drawloom/drawloomlaw08.SegmentNames", spec := "segmentNames", plainKeys := false, apart := false, narrowed := true }
def SegmentNamesUptoSaid : Prop := segmentNamesUptoRow.holds Try.pinned (OpenSpec.upto segmentNamesSpec)

/-- 'drawloomlaw08.SegmentParses', WHERE WHAT IT READS IS OF BULK AT MOST 1048576: true; the input reads as it did. -/
def segmentParsesUptoRow : OpenClaim := { program := "ytjcgpkokndckfaa", sum := "720c4f8c34d713e8a83f3554ba72c5455abb22488eefcc825ad4be880b7e5720", func := "drawloom/drawloomlaw08.SegmentParses", spec := "segmentParses", plainKeys := false, apart := false, narrowed := true }
def SegmentParsesUptoSaid : Prop := segmentParsesUptoRow.holds Try.pinned (OpenSpec.upto segmentParsesSpec)

/-- 'drawloomlaw08.SegmentFalls', WHERE WHAT IT READS IS OF BULK AT MOST 1048576: true; the input reads as it did. -/
def segmentFallsUptoRow : OpenClaim := { program := "ytjcgpkokndckfaa", sum := "720c4f8c34d713e8a83f3554ba72c5455abb22488eefcc825ad4be880b7e5720", func := "drawloom/drawloomlaw08.SegmentFalls", spec := "segmentFalls", plainKeys := false, apart := false, narrowed := true }
def SegmentFallsUptoSaid : Prop := segmentFallsUptoRow.holds Try.pinned (OpenSpec.upto segmentFallsSpec)

/-- 'drawloomlaw08.SegmentBounds', WHERE WHAT IT READS IS OF BULK AT MOST 1048576: true; the input reads as it did. -/
def segmentBoundsUptoRow : OpenClaim := { program := "ytjcgpkokndckfaa", sum := "720c4f8c34d713e8a83f3554ba72c5455abb22488eefcc825ad4be880b7e5720", func := "drawloom/drawloomlaw08.SegmentBounds", spec := "segmentBounds", plainKeys := false, apart := false, narrowed := true }
def SegmentBoundsUptoSaid : Prop := segmentBoundsUptoRow.holds Try.pinned (OpenSpec.upto segmentBoundsSpec)

/-- 'drawloomlaw08.SegmentPacks', WHERE WHAT IT READS IS OF BULK AT MOST 1048576: true; the input reads as it did. -/
def segmentPacksUptoRow : OpenClaim := { program := "ytjcgpkokndckfaa", sum := "720c4f8c34d713e8a83f3554ba72c5455abb22488eefcc825ad4be880b7e5720", func := "drawloom/drawloomlaw08.SegmentPacks", spec := "segmentPacks", plainKeys := false, apart := false, narrowed := true }
def SegmentPacksUptoSaid : Prop := segmentPacksUptoRow.holds Try.pinned (OpenSpec.upto segmentPacksSpec)

end Rows
end Go.Proofs.Ytjcgpkokndckfaa
