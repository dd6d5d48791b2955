/-
  No cell of these rows narrows 'for every input' (looked for: loops, veiled, ifaces, maps, wideKeys, modest, calm, conditions, laid).
  DERIVED. THE GIVEN ROWS OF THIS SEAT. 5 by the template 'for every input the law returns true; each argument reads behind the call as it read before'; 0 by the template 'total and deterministic' (their statements: YtknokiadbkgmaaaTotals.lean).
  GIVEN WITH THE SEED: the statements are not yours to turn. If you find one false, say at which input.
  Laid BY PROGRAM, IN A SANDBOX (cutbox-rows.mjs): the forced cells as the released guide's own fill.sh prints them over the translation dc9f237a88317099… (all of the seat's roots in one cut). By AI agents, Wed Nov 11 2026. No macro, syntax, notation, axiom, sorry.
-/
import Derived.Test.YtknokiadbkgmaaaChecked
import GoSem.Claim
import GoSem.ClaimJoined
import GoSem.ClaimMapViews
import Derived.JoinedTies
import Derived.KernelRfl
namespace Go.Proofs.Ytknokiadbkgmaaa
/- THE CELL 'sum', in the pinned program and in every row, IS THE sha256 OF THE DUMP (.gsa) THAT YtknokiadbkgmaaaProg.lean LOADS. Nothing in Lean hashes anything: it is a label: what it is worth is what the hold of that sum in a sandbox is worth. -/
noncomputable def Try.pinned : Pinned := { name := "ytknokiadbkgmaaa", sum := "dc9f237a88317099489fa25292c5532b9d9f08013c1bdb4ea282e70a713b3f88", checked := Try.checked }
namespace Rows
def none {H : Type} : Left H := { results := [], args := [] }

/-- 'drawloomlaw16.VmemNames': WHATEVER THE INPUT: true; the input reads as it did. -/
def vmemNamesSpec : ChangeSpec := { name := "vmemNames", fn := fun _ => fun
  | [] => { results := [.lit (.bool true)], args := [] }
  | _ => none }
def vmemNamesRow : OpenClaim := { program := "ytknokiadbkgmaaa", sum := "dc9f237a88317099489fa25292c5532b9d9f08013c1bdb4ea282e70a713b3f88", func := "drawloom/drawloomlaw16.VmemNames", spec := "vmemNames", plainKeys := false, apart := false }
def VmemNamesSaid : Prop := vmemNamesRow.holds Try.pinned (OpenSpec.ofChange vmemNamesSpec)

/-- ITS FALSE NEIGHBOUR: 'it returns false'. Refute it at one input. -/
def vmemNamesWrong : ChangeSpec := { name := "vmemNames", fn := fun _ => fun
  | [] => { results := [.lit (.bool false)], args := [] }
  | _ => none }
def VmemNamesWrongFalsely : Prop := vmemNamesRow.holds Try.pinned (OpenSpec.ofChange vmemNamesWrong)

/-- 'drawloomlaw16.VmemParts': WHATEVER THE INPUT: true; the input reads as it did. -/
def vmemPartsSpec : ChangeSpec := { name := "vmemParts", fn := fun _ => fun
  | [d1, d2, d3, d4] => { results := [.lit (.bool true)], args := [d1, d2, d3, d4] }
  | _ => none }
def vmemPartsRow : OpenClaim := { program := "ytknokiadbkgmaaa", sum := "dc9f237a88317099489fa25292c5532b9d9f08013c1bdb4ea282e70a713b3f88", func := "drawloom/drawloomlaw16.VmemParts", spec := "vmemParts", plainKeys := false, apart := false }
def VmemPartsSaid : Prop := vmemPartsRow.holds Try.pinned (OpenSpec.ofChange vmemPartsSpec)

/-- ITS FALSE NEIGHBOUR: 'it returns false'. Refute it at one input. -/
def vmemPartsWrong : ChangeSpec := { name := "vmemParts", fn := fun _ => fun
  | [d1, d2, d3, d4] => { results := [.lit (.bool false)], args := [d1, d2, d3, d4] }
  | _ => none }
def VmemPartsWrongFalsely : Prop := vmemPartsRow.holds Try.pinned (OpenSpec.ofChange vmemPartsWrong)

/-- 'drawloomlaw16.VmemRings': WHATEVER THE INPUT: true; the input reads as it did. -/
def vmemRingsSpec : ChangeSpec := { name := "vmemRings", fn := fun _ => fun
  | [d1, d2, d3, d4, d5] => { results := [.lit (.bool true)], args := [d1, d2, d3, d4, d5] }
  | _ => none }
def vmemRingsRow : OpenClaim := { program := "ytknokiadbkgmaaa", sum := "dc9f237a88317099489fa25292c5532b9d9f08013c1bdb4ea282e70a713b3f88", func := "drawloom/drawloomlaw16.VmemRings", spec := "vmemRings", plainKeys := false, apart := false }
def VmemRingsSaid : Prop := vmemRingsRow.holds Try.pinned (OpenSpec.ofChange vmemRingsSpec)

/-- ITS FALSE NEIGHBOUR: 'it returns false'. Refute it at one input. -/
def vmemRingsWrong : ChangeSpec := { name := "vmemRings", fn := fun _ => fun
  | [d1, d2, d3, d4, d5] => { results := [.lit (.bool false)], args := [d1, d2, d3, d4, d5] }
  | _ => none }
def VmemRingsWrongFalsely : Prop := vmemRingsRow.holds Try.pinned (OpenSpec.ofChange vmemRingsWrong)

/-- 'drawloomlaw16.VmemBack': WHATEVER THE INPUT: true; the input reads as it did. -/
def vmemBackSpec : ChangeSpec := { name := "vmemBack", fn := fun _ => fun
  | [d1, d2, d3] => { results := [.lit (.bool true)], args := [d1, d2, d3] }
  | _ => none }
def vmemBackRow : OpenClaim := { program := "ytknokiadbkgmaaa", sum := "dc9f237a88317099489fa25292c5532b9d9f08013c1bdb4ea282e70a713b3f88", func := "drawloom/drawloomlaw16.VmemBack", spec := "vmemBack", plainKeys := false, apart := false }
def VmemBackSaid : Prop := vmemBackRow.holds Try.pinned (OpenSpec.ofChange vmemBackSpec)

/-- ITS FALSE NEIGHBOUR: 'it returns false'. Refute it at one input. -/
def vmemBackWrong : ChangeSpec := { name := "vmemBack", fn := fun _ => fun
  | [d1, d2, d3] => { results := [.lit (.bool false)], args := [d1, d2, d3] }
  | _ => none }
def VmemBackWrongFalsely : Prop := vmemBackRow.holds Try.pinned (OpenSpec.ofChange vmemBackWrong)

/-- 'drawloomlaw16.VmemNil': WHATEVER THE INPUT: true; the input reads as it did. -/
def vmemNilSpec : ChangeSpec := { name := "vmemNil", fn := fun _ => fun
  | [d1, d2] => { results := [.lit (.bool true)], args := [d1, d2] }
  | _ => none }
def vmemNilRow : OpenClaim := { program := "ytknokiadbkgmaaa", sum := "dc9f237a88317099489fa25292c5532b9d9f08013c1bdb4ea282e70a713b3f88", func := "drawloom/drawloomlaw16.VmemNil", spec := "vmemNil", plainKeys := false, apart := false }
def VmemNilSaid : Prop := vmemNilRow.holds Try.pinned (OpenSpec.ofChange vmemNilSpec)

/-- ITS FALSE NEIGHBOUR: 'it returns false'. Refute it at one input. -/
def vmemNilWrong : ChangeSpec := { name := "vmemNil", fn := fun _ => fun
  | [d1, d2] => { results := [.lit (.bool false)], args := [d1, d2] }
  | _ => none }
def VmemNilWrongFalsely : Prop := vmemNilRow.holds Try.pinned (OpenSpec.ofChange vmemNilWrong)

/- THE SECOND FORM. 'bulk': how many values and letters a reading holds, each counted each time it is reached (what is shared counts as often as it is met; a slice's spare places count too). A statement '..UptoSaid' is the law's where the arguments, and the package variables that the reading takes, are together of bulk at most 1048576: NARROWER than '..Said'. Prove '..Said' where nothing that the law and all that it calls make is longer than what came in: it says more and counts as full. Else prove '..UptoSaid'. A law counts once. -/
mutual
def uptoBulk {H : Type} : DataW H → Nat
  | .lit (.string bytes) => bytes.length + 1
  | .lit _ => 1
  | .nil => 1
  | .ptr d => uptoBulk d + 1
  | .slice elems spare => uptoBulkAll elems + uptoBulkAll spare + 1
  | .agg parts => uptoBulkAll parts + 1
  | .iface _ d => uptoBulk d + 1
  | .map entries => uptoBulkEntries entries + 1
  | .held _ => 1
def uptoBulkAll {H : Type} : List (DataW H) → Nat
  | [] => 0
  | d :: r => uptoBulk d + uptoBulkAll r
def uptoBulkEntries {H : Type} : List (Lit × DataW H) → Nat
  | [] => 0
  | x :: r => uptoBulkEntry x + uptoBulkEntries r
def uptoBulkEntry {H : Type} : Lit × DataW H → Nat
  | (.string bytes, d) => bytes.length + uptoBulk d + 1
  | (_, d) => uptoBulk d + 1
 end
def uptoSmall : (H : Type) → List (DataW H) → Bool := fun _ ds => decide (uptoBulkAll ds ≤ 1048576)
def OpenSpec.upto (s : _root_.Go.ChangeSpec) : _root_.Go.OpenSpec := { _root_.Go.OpenSpec.ofChange s with cond := some uptoSmall }

/-- 'drawloomlaw16.VmemNames', WHERE WHAT IT READS IS OF BULK AT MOST 1048576: true; the input reads as it did. -/
def vmemNamesUptoRow : OpenClaim := { program := "ytknokiadbkgmaaa", sum := "dc9f237a88317099489fa25292c5532b9d9f08013c1bdb4ea282e70a713b3f88", func := "drawloom/drawloomlaw16.VmemNames", spec := "vmemNames", plainKeys := false, apart := false, narrowed := true }
def VmemNamesUptoSaid : Prop := vmemNamesUptoRow.holds Try.pinned (OpenSpec.upto vmemNamesSpec)

/-- 'drawloomlaw16.VmemParts', WHERE WHAT IT READS IS OF BULK AT MOST 1048576: true; the input reads as it did. -/
def vmemPartsUptoRow : OpenClaim := { program := "ytknokiadbkgmaaa", sum := "dc9f237a88317099489fa25292c5532b9d9f08013c1bdb4ea282e70a713b3f88", func := "drawloom/drawloomlaw16.VmemParts", spec := "vmemParts", plainKeys := false, apart := false, narrowed := true }
def VmemPartsUptoSaid : Prop := vmemPartsUptoRow.holds Try.pinned (OpenSpec.upto vmemPartsSpec)

/-- 'drawloomlaw16.VmemRings', WHERE WHAT IT READS IS OF BULK AT MOST 1048576: true; the input reads as it did. -/
def vmemRingsUptoRow : OpenClaim := { program := "ytknokiadbkgmaaa", sum := "dc9f237a88317099489fa25292c5532b9d9f08013c1bdb4ea282e70a713b3f88", func := "drawloom/drawloomlaw16.VmemRings", spec := "vmemRings", plainKeys := false, apart := false, narrowed := true }
def VmemRingsUptoSaid : Prop := vmemRingsUptoRow.holds Try.pinned (OpenSpec.upto vmemRingsSpec)

/-- 'drawloomlaw16.VmemBack', WHERE WHAT IT READS IS OF BULK AT MOST 1048576: true; the input reads as it did. -/
def vmemBackUptoRow : OpenClaim := { program := "ytknokiadbkgmaaa", sum := "dc9f237a88317099489fa25292c5532b9d9f08013c1bdb4ea282e70a713b3f88", func := "drawloom/drawloomlaw16.VmemBack", spec := "vmemBack", plainKeys := false, apart := false, narrowed := true }
def VmemBackUptoSaid : Prop := vmemBackUptoRow.holds Try.pinned (OpenSpec.upto vmemBackSpec)

/-- 'drawloomlaw16.VmemNil', WHERE WHAT IT READS IS OF BULK AT MOST 1048576: true; the input reads as it did. -/
def vmemNilUptoRow : OpenClaim := { program := "ytknokiadbkgmaaa", sum := "dc9f237a88317099489fa25292c5532b9d9f08013c1bdb4ea282e70a713b3f88", func := "drawloom/drawloomlaw16.VmemNil", spec := "vmemNil", plainKeys := false, apart := false, narrowed := true }
def VmemNilUptoSaid : Prop := vmemNilUptoRow.holds Try.pinned (OpenSpec.upto vmemNilSpec)

end Rows
end Go.Proofs.Ytknokiadbkgmaaa
