/-
  No cell of these rows narrows 'for every input' (looked for: loops, veiled, ifaces, maps, wideKeys, modest, calm, conditions, laid).
  DERIVED. THE GIVEN ROWS OF THIS SEAT. 5 by the template 'for every input the law returns true; each argument reads behind the call as it read before'; 0 by the template 'total and deterministic' (their statements: YtfdeojefcfnogaaTotals.lean).
  GIVEN WITH THE SEED: the statements are not yours to turn. If you find one false, say at which input.
  Laid BY PROGRAM, IN A SANDBOX (cutbox-rows.mjs): the forced cells as the released guide's own fill.sh prints them over the translation b39d1f717f4baeea… (all of the seat's roots in one cut). By AI agents, Wed Nov 11 2026. No macro, syntax, notation, axiom, sorry.
-/
import Derived.Test.YtfdeojefcfnogaaChecked
import GoSem.Claim
import GoSem.ClaimJoined
import GoSem.ClaimMapViews
import Derived.JoinedTies
import Derived.KernelRfl
namespace Go.Proofs.Ytfdeojefcfnogaa
/- THE CELL 'sum', in the pinned program and in every row, IS THE sha256 OF THE DUMP (.gsa) THAT YtfdeojefcfnogaaProg.lean LOADS. Nothing in Lean hashes anything: it is a label: what it is worth is what the hold of that sum in a sandbox is worth. -/
noncomputable def Try.pinned : Pinned := { name := "ytfdeojefcfnogaa", sum := "b39d1f717f4baeea27961734190e9e78fe30e8cd83ff7ebf2715cece3167d601", checked := Try.checked }
namespace Rows
def none {H : Type} : Left H := { results := [], args := [] }

/-- 'drawloomlaw05.RamNames': WHATEVER THE INPUT: true; the input reads as it did. -/
def ramNamesSpec : ChangeSpec := { name := "ramNames", fn := fun _ => fun
  | [] => { results := [.lit (.bool true)], args := [] }
  | _ => none }
def ramNamesRow : OpenClaim := { program := "ytfdeojefcfnogaa", sum := "b39d1f717f4baeea27961734190e9e78fe30e8cd83ff7ebf2715cece3167d601", func := "drawloom/drawloomlaw05.RamNames", spec := "ramNames", recurses := true, apart := false }
def RamNamesSaid : Prop := ramNamesRow.holds Try.pinned (OpenSpec.ofChange ramNamesSpec)

/-- ITS FALSE NEIGHBOUR: 'it returns false'. Refute it at one input. -/
def ramNamesWrong : ChangeSpec := { name := "ramNames", fn := fun _ => fun
  | [] => { results := [.lit (.bool false)], args := [] }
  | _ => none }
def RamNamesWrongFalsely : Prop := ramNamesRow.holds Try.pinned (OpenSpec.ofChange ramNamesWrong)

/-- 'drawloomlaw05.RamBack': WHATEVER THE INPUT: true; the input reads as it did. -/
def ramBackSpec : ChangeSpec := { name := "ramBack", fn := fun _ => fun
  | [d1, d2, d3, d4] => { results := [.lit (.bool true)], args := [d1, d2, d3, d4] }
  | _ => none }
def ramBackRow : OpenClaim := { program := "ytfdeojefcfnogaa", sum := "b39d1f717f4baeea27961734190e9e78fe30e8cd83ff7ebf2715cece3167d601", func := "drawloom/drawloomlaw05.RamBack", spec := "ramBack", recurses := true, apart := false }
def RamBackSaid : Prop := ramBackRow.holds Try.pinned (OpenSpec.ofChange ramBackSpec)

/-- ITS FALSE NEIGHBOUR: 'it returns false'. Refute it at one input. -/
def ramBackWrong : ChangeSpec := { name := "ramBack", fn := fun _ => fun
  | [d1, d2, d3, d4] => { results := [.lit (.bool false)], args := [d1, d2, d3, d4] }
  | _ => none }
def RamBackWrongFalsely : Prop := ramBackRow.holds Try.pinned (OpenSpec.ofChange ramBackWrong)

/-- 'drawloomlaw05.RamNotes': WHATEVER THE INPUT: true; the input reads as it did. -/
def ramNotesSpec : ChangeSpec := { name := "ramNotes", fn := fun _ => fun
  | [d1, d2, d3] => { results := [.lit (.bool true)], args := [d1, d2, d3] }
  | _ => none }
def ramNotesRow : OpenClaim := { program := "ytfdeojefcfnogaa", sum := "b39d1f717f4baeea27961734190e9e78fe30e8cd83ff7ebf2715cece3167d601", func := "drawloom/drawloomlaw05.RamNotes", spec := "ramNotes", recurses := true, apart := false }
def RamNotesSaid : Prop := ramNotesRow.holds Try.pinned (OpenSpec.ofChange ramNotesSpec)

/-- ITS FALSE NEIGHBOUR: 'it returns false'. Refute it at one input. -/
def ramNotesWrong : ChangeSpec := { name := "ramNotes", fn := fun _ => fun
  | [d1, d2, d3] => { results := [.lit (.bool false)], args := [d1, d2, d3] }
  | _ => none }
def RamNotesWrongFalsely : Prop := ramNotesRow.holds Try.pinned (OpenSpec.ofChange ramNotesWrong)

/-- 'drawloomlaw05.RamPlays': WHATEVER THE INPUT: true; the input reads as it did. -/
def ramPlaysSpec : ChangeSpec := { name := "ramPlays", fn := fun _ => fun
  | [d1, d2] => { results := [.lit (.bool true)], args := [d1, d2] }
  | _ => none }
def ramPlaysRow : OpenClaim := { program := "ytfdeojefcfnogaa", sum := "b39d1f717f4baeea27961734190e9e78fe30e8cd83ff7ebf2715cece3167d601", func := "drawloom/drawloomlaw05.RamPlays", spec := "ramPlays", recurses := true, apart := false }
def RamPlaysSaid : Prop := ramPlaysRow.holds Try.pinned (OpenSpec.ofChange ramPlaysSpec)

/-- ITS FALSE NEIGHBOUR: 'it returns false'. Refute it at one input. -/
def ramPlaysWrong : ChangeSpec := { name := "ramPlays", fn := fun _ => fun
  | [d1, d2] => { results := [.lit (.bool false)], args := [d1, d2] }
  | _ => none }
def RamPlaysWrongFalsely : Prop := ramPlaysRow.holds Try.pinned (OpenSpec.ofChange ramPlaysWrong)

/-- 'drawloomlaw05.RamNil': WHATEVER THE INPUT: true; the input reads as it did. -/
def ramNilSpec : ChangeSpec := { name := "ramNil", fn := fun _ => fun
  | [d] => { results := [.lit (.bool true)], args := [d] }
  | _ => none }
def ramNilRow : OpenClaim := { program := "ytfdeojefcfnogaa", sum := "b39d1f717f4baeea27961734190e9e78fe30e8cd83ff7ebf2715cece3167d601", func := "drawloom/drawloomlaw05.RamNil", spec := "ramNil", recurses := true, apart := false }
def RamNilSaid : Prop := ramNilRow.holds Try.pinned (OpenSpec.ofChange ramNilSpec)

/-- ITS FALSE NEIGHBOUR: 'it returns false'. Refute it at one input. -/
def ramNilWrong : ChangeSpec := { name := "ramNil", fn := fun _ => fun
  | [d] => { results := [.lit (.bool false)], args := [d] }
  | _ => none }
def RamNilWrongFalsely : Prop := ramNilRow.holds Try.pinned (OpenSpec.ofChange ramNilWrong)

/- THE SECOND FORM. 'bulk': how many values and letters a reading holds, each counted each time it is reached (what is shared counts as often as it is met; a slice's spare places count too). A statement '..UptoSaid' is the law's where the arguments, and the package variables that the reading takes, are together of bulk at most 1048576: NARROWER than '..Said'. Prove '..Said' where nothing that the law and all that it calls make is longer than what came in: it says more and counts as full. Else prove '..UptoSaid'. A law counts once. -/
mutual
def uptoBulk {H : Type} : DataW H → Nat
  | .lit (.string bytes) => bytes.length + 1
  | .lit _ => 1
  | .nil => 1
  | .ptr d => uptoBulk d + 1
  | .slice elems spare => uptoBulkAll elems + uptoBulkAll spare + 1
  | .agg parts => uptoBulkAll parts + 1
  | .iface _ d => uptoBulk d + 1
  | .map entries => uptoBulkEntries entries + 1
  | .held _ => 1
def uptoBulkAll {H : Type} : List (DataW H) → Nat
  | [] => 0
  | d :: r => uptoBulk d + uptoBulkAll r
def uptoBulkEntries {H : Type} : List (Lit × DataW H) → Nat
  | [] => 0
  | x :: r => uptoBulkEntry x + uptoBulkEntries r
def uptoBulkEntry {H : Type} : Lit × DataW H → Nat
  | (.string bytes, d) => bytes.length + uptoBulk d + 1
  | (_, d) => uptoBulk d + 1
 end
def uptoSmall : (H : Type) → List (DataW H) → Bool := fun _ ds => decide (uptoBulkAll ds ≤ 1048576)
def OpenSpec.upto (s : _root_.Go.ChangeSpec) : _root_.Go.OpenSpec := { _root_.Go.OpenSpec.ofChange s with cond := some uptoSmall }

/-- 'drawloomlaw05.RamNames', WHERE WHAT IT READS IS OF BULK AT MOST 1048576: true; the input reads as it did. -/
def ramNamesUptoRow : OpenClaim := { program := "ytfdeojefcfnogaa", sum := "b39d1f717f4baeea27961734190e9e78fe30e8cd83ff7ebf2715cece3167d601", func := "drawloom/drawloomlaw05.RamNames", spec := "ramNames", recurses := true, apart := false, narrowed := true }
def RamNamesUptoSaid : Prop := ramNamesUptoRow.holds Try.pinned (OpenSpec.upto ramNamesSpec)

/-- 'drawloomlaw05.RamBack', WHERE WHAT IT READS IS OF BULK AT MOST 1048576: true; the input reads as it did. -/
def ramBackUptoRow : OpenClaim := { program := "ytfdeojefcfnogaa", sum := "b39d1f717f4baeea27961734190e9e78fe30e8cd83ff7ebf2715cece3167d601", func := "drawloom/drawloomlaw05.RamBack", spec := "ramBack", recurses := true, apart := false, narrowed := true }
def RamBackUptoSaid : Prop := ramBackUptoRow.holds Try.pinned (OpenSpec.upto ramBackSpec)

/-- 'drawloomlaw05.RamNotes', WHERE WHAT IT READS IS OF BULK AT MOST 1048576: true; the input reads as it did. -/
def ramNotesUptoRow : OpenClaim := { program := "ytfdeojefcfnogaa", sum := "b39d1f717f4baeea27961734190e9e78fe30e8cd83ff7ebf2715cece3167d601", func := "drawloom/drawloomlaw05.RamNotes", spec := "ramNotes", recurses := true, apart := false, narrowed := true }
def RamNotesUptoSaid : Prop := ramNotesUptoRow.holds Try.pinned (OpenSpec.upto ramNotesSpec)

/-- 'drawloomlaw05.RamPlays', WHERE WHAT IT READS IS OF BULK AT MOST 1048576: true; the input reads as it did. -/
def ramPlaysUptoRow : OpenClaim := { program := "ytfdeojefcfnogaa", sum := "b39d1f717f4baeea27961734190e9e78fe30e8cd83ff7ebf2715cece3167d601", func := "drawloom/drawloomlaw05.RamPlays", spec := "ramPlays", recurses := true, apart := false, narrowed := true }
def RamPlaysUptoSaid : Prop := ramPlaysUptoRow.holds Try.pinned (OpenSpec.upto ramPlaysSpec)

/-- 'drawloomlaw05.RamNil', WHERE WHAT IT READS IS OF BULK AT MOST 1048576: true; the input reads as it did. -/
def ramNilUptoRow : OpenClaim := { program := "ytfdeojefcfnogaa", sum := "b39d1f717f4baeea27961734190e9e78fe30e8cd83ff7ebf2715cece3167d601", func := "drawloom/drawloomlaw05.RamNil", spec := "ramNil", recurses := true, apart := false, narrowed := true }
def RamNilUptoSaid : Prop := ramNilUptoRow.holds Try.pinned (OpenSpec.upto ramNilSpec)

end Rows
end Go.Proofs.Ytfdeojefcfnogaa
