/-
  No cell of these rows narrows 'for every input' (looked for: loops, veiled, ifaces, maps, wideKeys, modest, calm, conditions, laid).
  DERIVED. THE GIVEN ROWS OF THIS SEAT. 4 by the template 'for every input the law returns true; each argument reads behind the call as it read before'; 0 by the template 'total and deterministic' (their statements: YtehobiccbfkbjaaTotals.lean).
  GIVEN WITH THE SEED: the statements are not yours to turn. If you find one false, say at which input.
  Laid BY PROGRAM, IN A SANDBOX (cutbox-rows.mjs): the forced cells as the released guide's own fill.sh prints them over the translation 519c139061637d8a… (all of the seat's roots in one cut). By AI agents, Wed Nov 11 2026. No macro, syntax, notation, axiom, sorry.
-/
import Derived.Test.YtehobiccbfkbjaaChecked
import GoSem.Claim
import GoSem.ClaimJoined
import GoSem.ClaimMapViews
import Derived.JoinedTies
import Derived.KernelRfl
namespace Go.Proofs.Ytehobiccbfkbjaa
/- THE CELL 'sum', in the pinned program and in every row, IS THE sha256 OF THE DUMP (.gsa) THAT YtehobiccbfkbjaaProg.lean LOADS. Nothing in Lean hashes anything: it is a label: what it is worth is what the hold of that sum in a sandbox is worth. -/
noncomputable def Try.pinned : Pinned := { name := "ytehobiccbfkbjaa", sum := "519c139061637d8a65bfd06951a651de3c18e3333ea1523293c6cfbe55609d9e", checked := Try.checked }
namespace Rows
def none {H : Type} : Left H := { results := [], args := [] }

/-- 'drawloomlaw12.PitRounds': WHATEVER THE INPUT: true; the input reads as it did. -/
def pitRoundsSpec : ChangeSpec := { name := "pitRounds", fn := fun _ => fun
  | [d1, d2, d3] => { results := [.lit (.bool true)], args := [d1, d2, d3] }
  | _ => none }
def pitRoundsRow : OpenClaim := { program := "ytehobiccbfkbjaa", sum := "519c139061637d8a65bfd06951a651de3c18e3333ea1523293c6cfbe55609d9e", func := "drawloom/drawloomlaw12.PitRounds", spec := "pitRounds", unfollowed := true, recurses := true, apart := false }
def PitRoundsSaid : Prop := pitRoundsRow.holds Try.pinned (OpenSpec.ofChange pitRoundsSpec)

/-- ITS FALSE NEIGHBOUR: 'it returns false'. Refute it at one input. -/
def pitRoundsWrong : ChangeSpec := { name := "pitRounds", fn := fun _ => fun
  | [d1, d2, d3] => { results := [.lit (.bool false)], args := [d1, d2, d3] }
  | _ => none }
def PitRoundsWrongFalsely : Prop := pitRoundsRow.holds Try.pinned (OpenSpec.ofChange pitRoundsWrong)

/-- 'drawloomlaw12.PitHolds': WHATEVER THE INPUT: true; the input reads as it did. -/
def pitHoldsSpec : ChangeSpec := { name := "pitHolds", fn := fun _ => fun
  | [d1, d2, d3] => { results := [.lit (.bool true)], args := [d1, d2, d3] }
  | _ => none }
def pitHoldsRow : OpenClaim := { program := "ytehobiccbfkbjaa", sum := "519c139061637d8a65bfd06951a651de3c18e3333ea1523293c6cfbe55609d9e", func := "drawloom/drawloomlaw12.PitHolds", spec := "pitHolds", unfollowed := true, recurses := true, apart := false }
def PitHoldsSaid : Prop := pitHoldsRow.holds Try.pinned (OpenSpec.ofChange pitHoldsSpec)

/-- ITS FALSE NEIGHBOUR: 'it returns false'. Refute it at one input. -/
def pitHoldsWrong : ChangeSpec := { name := "pitHolds", fn := fun _ => fun
  | [d1, d2, d3] => { results := [.lit (.bool false)], args := [d1, d2, d3] }
  | _ => none }
def PitHoldsWrongFalsely : Prop := pitHoldsRow.holds Try.pinned (OpenSpec.ofChange pitHoldsWrong)

/-- 'drawloomlaw12.PitNil': WHATEVER THE INPUT: true; the input reads as it did. -/
def pitNilSpec : ChangeSpec := { name := "pitNil", fn := fun _ => fun
  | [d] => { results := [.lit (.bool true)], args := [d] }
  | _ => none }
def pitNilRow : OpenClaim := { program := "ytehobiccbfkbjaa", sum := "519c139061637d8a65bfd06951a651de3c18e3333ea1523293c6cfbe55609d9e", func := "drawloom/drawloomlaw12.PitNil", spec := "pitNil", unfollowed := true, recurses := true, apart := false }
def PitNilSaid : Prop := pitNilRow.holds Try.pinned (OpenSpec.ofChange pitNilSpec)

/-- ITS FALSE NEIGHBOUR: 'it returns false'. Refute it at one input. -/
def pitNilWrong : ChangeSpec := { name := "pitNil", fn := fun _ => fun
  | [d] => { results := [.lit (.bool false)], args := [d] }
  | _ => none }
def PitNilWrongFalsely : Prop := pitNilRow.holds Try.pinned (OpenSpec.ofChange pitNilWrong)

/-- 'drawloomlaw12.PitFalls': WHATEVER THE INPUT: true; the input reads as it did. -/
def pitFallsSpec : ChangeSpec := { name := "pitFalls", fn := fun _ => fun
  | [d1, d2, d3] => { results := [.lit (.bool true)], args := [d1, d2, d3] }
  | _ => none }
def pitFallsRow : OpenClaim := { program := "ytehobiccbfkbjaa", sum := "519c139061637d8a65bfd06951a651de3c18e3333ea1523293c6cfbe55609d9e", func := "drawloom/drawloomlaw12.PitFalls", spec := "pitFalls", unfollowed := true, recurses := true, apart := false }
def PitFallsSaid : Prop := pitFallsRow.holds Try.pinned (OpenSpec.ofChange pitFallsSpec)

/-- ITS FALSE NEIGHBOUR: 'it returns false'. Refute it at one input. -/
def pitFallsWrong : ChangeSpec := { name := "pitFalls", fn := fun _ => fun
  | [d1, d2, d3] => { results := [.lit (.bool false)], args := [d1, d2, d3] }
  | _ => none }
def PitFallsWrongFalsely : Prop := pitFallsRow.holds Try.pinned (OpenSpec.ofChange pitFallsWrong)

/- THE SECOND FORM. 'bulk': how many values and letters a reading holds, each counted each time it is reached (what is shared counts as often as it is met; a slice's spare places count too). A statement '..UptoSaid' is the law's where the arguments, and the package variables that the reading takes, are together of bulk at most 1048576: NARROWER than '..Said'. Prove '..Said' where nothing that the law and all that it calls make is longer than what came in: it says more and counts as full. Else prove '..UptoSaid'. A law counts once. -/
mutual
def uptoBulk {H : Type} : DataW H → Nat
  | .lit (.string bytes) => bytes.length + 1
  | .lit _ => 1
  | .nil => 1
  | .ptr d => uptoBulk d + 1
  | .slice elems spare => uptoBulkAll elems + uptoBulkAll spare + 1
  | .agg parts => uptoBulkAll parts + 1
  | .iface _ d => uptoBulk d + 1
  | .map entries => uptoBulkEntries entries + 1
  | .held _ => 1
def uptoBulkAll {H : Type} : List (DataW H) → Nat
  | [] => 0
  | d :: r => uptoBulk d + uptoBulkAll r
def uptoBulkEntries {H : Type} : List (Lit × DataW H) → Nat
  | [] => 0
  | x :: r => uptoBulkEntry x + uptoBulkEntries r
def uptoBulkEntry {H : Type} : Lit × DataW H → Nat
  | (.string bytes, d) => bytes.length + uptoBulk d + 1
  | (_, d) => uptoBulk d + 1
 end
def uptoSmall : (H : Type) → List (DataW H) → Bool := fun _ ds => decide (uptoBulkAll ds ≤ 1048576)
def OpenSpec.upto (s : _root_.Go.ChangeSpec) : _root_.Go.OpenSpec := { _root_.Go.OpenSpec.ofChange s with cond := some uptoSmall }

/-- 'drawloomlaw12.PitRounds', WHERE WHAT IT READS IS OF BULK AT MOST 1048576: true; the input reads as it did. -/
def pitRoundsUptoRow : OpenClaim := { program := "ytehobiccbfkbjaa", sum := "519c139061637d8a65bfd06951a651de3c18e3333ea1523293c6cfbe55609d9e", func := "drawloom/drawloomlaw12.PitRounds", spec := "pitRounds", unfollowed := true, recurses := true, apart := false, narrowed := true }
def PitRoundsUptoSaid : Prop := pitRoundsUptoRow.holds Try.pinned (OpenSpec.upto pitRoundsSpec)

/-- 'drawloomlaw12.PitHolds', WHERE WHAT IT READS IS OF BULK AT MOST 1048576: true; the input reads as it did. -/
def pitHoldsUptoRow : OpenClaim := { program := "ytehobiccbfkbjaa", sum := "519c139061637d8a65bfd06951a651de3c18e3333ea1523293c6cfbe55609d9e", func := "drawloom/drawloomlaw12.PitHolds", spec := "pitHolds", unfollowed := true, recurses := true, apart := false, narrowed := true }
def PitHoldsUptoSaid : Prop := pitHoldsUptoRow.holds Try.pinned (OpenSpec.upto pitHoldsSpec)

/-- 'drawloomlaw12.PitNil', WHERE WHAT IT READS IS OF BULK AT MOST 1048576: true; the input reads as it did. -/
def pitNilUptoRow : OpenClaim := { program := "ytehobiccbfkbjaa", sum := "519c139061637d8a65bfd06951a651de3c18e3333ea1523293c6cfbe55609d9e", func := "drawloom/drawloomlaw12.PitNil", spec := "pitNil", unfollowed := true, recurses := true, apart := false, narrowed := true }
def PitNilUptoSaid : Prop := pitNilUptoRow.holds Try.pinned (OpenSpec.upto pitNilSpec)

/-- 'drawloomlaw12.PitFalls', WHERE WHAT IT READS IS OF BULK AT MOST 1048576: true; the input reads as it did. -/
def pitFallsUptoRow : OpenClaim := { program := "ytehobiccbfkbjaa", sum := "519c139061637d8a65bfd06951a651de3c18e3333ea1523293c6cfbe55609d9e", func := "drawloom/drawloomlaw12.PitFalls", spec := "pitFalls", unfollowed := true, recurses := true, apart := false, narrowed := true }
def PitFallsUptoSaid : Prop := pitFallsUptoRow.holds Try.pinned (OpenSpec.upto pitFallsSpec)

end Rows
end Go.Proofs.Ytehobiccbfkbjaa
