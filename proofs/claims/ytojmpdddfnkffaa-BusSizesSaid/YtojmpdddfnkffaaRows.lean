/-
  No cell of these rows narrows 'for every input' (looked for: loops, veiled, ifaces, maps, wideKeys, modest, calm, conditions, laid).
  DERIVED. THE GIVEN ROWS OF THIS SEAT. 4 by the template 'for every input the law returns true; each argument reads behind the call as it read before'; 0 by the template 'total and deterministic' (their statements: YtojmpdddfnkffaaTotals.lean).
  GIVEN WITH THE SEED: the statements are not yours to turn. If you find one false, say at which input.
  Laid BY PROGRAM, IN A SANDBOX (cutbox-rows.mjs): the forced cells as the released guide's own fill.sh prints them over the translation 417980e66a6b7593… (all of the seat's roots in one cut). By AI agents, Wed Nov 11 2026. No macro, syntax, notation, axiom, sorry.
-/
import Derived.Test.YtojmpdddfnkffaaChecked
import GoSem.Claim
import GoSem.ClaimJoined
import GoSem.ClaimMapViews
import Derived.JoinedTies
import Derived.KernelRfl
namespace Go.Proofs.Ytojmpdddfnkffaa
/- THE CELL 'sum', in the pinned program and in every row, IS THE sha256 OF THE DUMP (.gsa) THAT YtojmpdddfnkffaaProg.lean LOADS. Nothing in Lean hashes anything: it is a label: what it is worth is what the hold of that sum in a sandbox is worth. -/
noncomputable def Try.pinned : Pinned := { name := "ytojmpdddfnkffaa", sum := "417980e66a6b75937a67ee9367607eea3a1a34eac8e9eb274102cdc51a5a7a5f", checked := Try.checked }
namespace Rows
def none {H : Type} : Left H := { results := [], args := [] }

/-- 'drawloomlaw15.BusTicks': WHATEVER THE INPUT: true; the input reads as it did. -/
def busTicksSpec : ChangeSpec := { name := "busTicks", fn := fun _ => fun
  | [d1, d2] => { results := [.lit (.bool true)], args := [d1, d2] }
  | _ => none }
def busTicksRow : OpenClaim := { program := "ytojmpdddfnkffaa", sum := "417980e66a6b75937a67ee9367607eea3a1a34eac8e9eb274102cdc51a5a7a5f", func := "drawloom/drawloomlaw15.BusTicks", spec := "busTicks", unfollowed := true, recurses := true, apart := false }
def BusTicksSaid : Prop := busTicksRow.holds Try.pinned (OpenSpec.ofChange busTicksSpec)

/-- ITS FALSE NEIGHBOUR: 'it returns false'. Refute it at one input. -/
def busTicksWrong : ChangeSpec := { name := "busTicks", fn := fun _ => fun
  | [d1, d2] => { results := [.lit (.bool false)], args := [d1, d2] }
  | _ => none }
def BusTicksWrongFalsely : Prop := busTicksRow.holds Try.pinned (OpenSpec.ofChange busTicksWrong)

/-- 'drawloomlaw15.BusSizes': WHATEVER THE INPUT: true; the input reads as it did. -/
def busSizesSpec : ChangeSpec := { name := "busSizes", fn := fun _ => fun
  | [d1, d2, d3, d4] => { results := [.lit (.bool true)], args := [d1, d2, d3, d4] }
  | _ => none }
def busSizesRow : OpenClaim := { program := "ytojmpdddfnkffaa", sum := "417980e66a6b75937a67ee9367607eea3a1a34eac8e9eb274102cdc51a5a7a5f", func := "drawloom/drawloomlaw15.BusSizes", spec := "busSizes", unfollowed := true, recurses := true, apart := false }
def BusSizesSaid : Prop := busSizesRow.holds Try.pinned (OpenSpec.ofChange busSizesSpec)

/-- ITS FALSE NEIGHBOUR: 'it returns false'. Refute it at one input. -/
def busSizesWrong : ChangeSpec := { name := "busSizes", fn := fun _ => fun
  | [d1, d2, d3, d4] => { results := [.lit (.bool false)], args := [d1, d2, d3, d4] }
  | _ => none }
def BusSizesWrongFalsely : Prop := busSizesRow.holds Try.pinned (OpenSpec.ofChange busSizesWrong)

/-- 'drawloomlaw15.BusNil': WHATEVER THE INPUT: true; the input reads as it did. -/
def busNilSpec : ChangeSpec := { name := "busNil", fn := fun _ => fun
  | [d1, d2] => { results := [.lit (.bool true)], args := [d1, d2] }
  | _ => none }
def busNilRow : OpenClaim := { program := "ytojmpdddfnkffaa", sum := "417980e66a6b75937a67ee9367607eea3a1a34eac8e9eb274102cdc51a5a7a5f", func := "drawloom/drawloomlaw15.BusNil", spec := "busNil", unfollowed := true, recurses := true, apart := false }
def BusNilSaid : Prop := busNilRow.holds Try.pinned (OpenSpec.ofChange busNilSpec)

/-- ITS FALSE NEIGHBOUR: 'it returns false'. Refute it at one input. -/
def busNilWrong : ChangeSpec := { name := "busNil", fn := fun _ => fun
  | [d1, d2] => { results := [.lit (.bool false)], args := [d1, d2] }
  | _ => none }
def BusNilWrongFalsely : Prop := busNilRow.holds Try.pinned (OpenSpec.ofChange busNilWrong)

/-- 'drawloomlaw15.BusGates': WHATEVER THE INPUT: true; the input reads as it did. -/
def busGatesSpec : ChangeSpec := { name := "busGates", fn := fun _ => fun
  | [d1, d2, d3, d4] => { results := [.lit (.bool true)], args := [d1, d2, d3, d4] }
  | _ => none }
def busGatesRow : OpenClaim := { program := "ytojmpdddfnkffaa", sum := "417980e66a6b75937a67ee9367607eea3a1a34eac8e9eb274102cdc51a5a7a5f", func := "drawloom/drawloomlaw15.BusGates", spec := "busGates", unfollowed := true, recurses := true, apart := false }
def BusGatesSaid : Prop := busGatesRow.holds Try.pinned (OpenSpec.ofChange busGatesSpec)

/-- ITS FALSE NEIGHBOUR: 'it returns false'. Refute it at one input. -/
def busGatesWrong : ChangeSpec := { name := "busGates", fn := fun _ => fun
  | [d1, d2, d3, d4] => { results := [.lit (.bool false)], args := [d1, d2, d3, d4] }
  | _ => none }
def BusGatesWrongFalsely : Prop := busGatesRow.holds Try.pinned (OpenSpec.ofChange busGatesWrong)

/- THE SECOND FORM. 'bulk': how many values and letters a reading holds, each counted each time it is reached (what is shared counts as often as it is met; a slice's spare places count too). A statement '..UptoSaid' is the law's where the arguments, and the package variables that the reading takes, are together of bulk at most 1048576: NARROWER than '..Said'. Prove '..Said' where nothing that the law and all that it calls make is longer than what came in: it says more and counts as full. Else prove '..UptoSaid'. A law counts once. -/
mutual
def uptoBulk {H : Type} : DataW H → Nat
  | .lit (.string bytes) => bytes.length + 1
  | .lit _ => 1
  | .nil => 1
  | .ptr d => uptoBulk d + 1
  | .slice elems spare => uptoBulkAll elems + uptoBulkAll spare + 1
  | .agg parts => uptoBulkAll parts + 1
  | .iface _ d => uptoBulk d + 1
  | .map entries => uptoBulkEntries entries + 1
  | .held _ => 1
def uptoBulkAll {H : Type} : List (DataW H) → Nat
  | [] => 0
  | d :: r => uptoBulk d + uptoBulkAll r
def uptoBulkEntries {H : Type} : List (Lit × DataW H) → Nat
  | [] => 0
  | x :: r => uptoBulkEntry x + uptoBulkEntries r
def uptoBulkEntry {H : Type} : Lit × DataW H → Nat
  | (.string bytes, d) => bytes.length + uptoBulk d + 1
  | (_, d) => uptoBulk d + 1
 end
def uptoSmall : (H : Type) → List (DataW H) → Bool := fun _ ds => decide (uptoBulkAll ds ≤ 1048576)
def OpenSpec.upto (s : _root_.Go.ChangeSpec) : _root_.Go.OpenSpec := { _root_.Go.OpenSpec.ofChange s with cond := some uptoSmall }

/-- 'drawloomlaw15.BusTicks', WHERE WHAT IT READS IS OF BULK AT MOST 1048576: true; the input reads as it did. -/
def busTicksUptoRow : OpenClaim := { program := "ytojmpdddfnkffaa", sum := "417980e66a6b75937a67ee9367607eea3a1a34eac8e9eb274102cdc51a5a7a5f", func := "drawloom/drawloomlaw15.BusTicks", spec := "busTicks", unfollowed := true, recurses := true, apart := false, narrowed := true }
def BusTicksUptoSaid : Prop := busTicksUptoRow.holds Try.pinned (OpenSpec.upto busTicksSpec)

/-- 'drawloomlaw15.BusSizes', WHERE WHAT IT READS IS OF BULK AT MOST 1048576: true; the input reads as it did. -/
def busSizesUptoRow : OpenClaim := { program := "ytojmpdddfnkffaa", sum := "417980e66a6b75937a67ee9367607eea3a1a34eac8e9eb274102cdc51a5a7a5f", func := "drawloom/drawloomlaw15.BusSizes", spec := "busSizes", unfollowed := true, recurses := true, apart := false, narrowed := true }
def BusSizesUptoSaid : Prop := busSizesUptoRow.holds Try.pinned (OpenSpec.upto busSizesSpec)

/-- 'drawloomlaw15.BusNil', WHERE WHAT IT READS IS OF BULK AT MOST 1048576: true; the input reads as it did. -/
def busNilUptoRow : OpenClaim := { program := "ytojmpdddfnkffaa", sum := "417980e66a6b75937a67ee9367607eea3a1a34eac8e9eb274102cdc51a5a7a5f", func := "drawloom/drawloomlaw15.BusNil", spec := "busNil", unfollowed := true, recurses := true, apart := false, narrowed := true }
def BusNilUptoSaid : Prop := busNilUptoRow.holds Try.pinned (OpenSpec.upto busNilSpec)

/-- 'drawloomlaw15.BusGates', WHERE WHAT IT READS IS OF BULK AT MOST 1048576: true; the input reads as it did. -/
def busGatesUptoRow : OpenClaim := { program := "ytojmpdddfnkffaa", sum := "417980e66a6b75937a67ee9367607eea3a1a34eac8e9eb274102cdc51a5a7a5f", func := "drawloom/drawloomlaw15.BusGates", spec := "busGates", unfollowed := true, recurses := true, apart := false, narrowed := true }
def BusGatesUptoSaid : Prop := busGatesUptoRow.holds Try.pinned (OpenSpec.upto busGatesSpec)

end Rows
end Go.Proofs.Ytojmpdddfnkffaa
