/-
  No cell of these rows narrows 'for every input' (looked for: loops, veiled, ifaces, maps, wideKeys, modest, calm, conditions, laid).
  DERIVED. THE GIVEN ROWS OF THIS SEAT. 6 by the template 'for every input the law returns true; each argument reads behind the call as it read before'; 0 by the template 'total and deterministic' (their statements: YtebhnfoehgpilaaTotals.lean).
  GIVEN WITH THE SEED: the statements are not yours to turn. If you find one false, say at which input.
  Laid BY PROGRAM, IN A SANDBOX (cutbox-rows.mjs): the forced cells as the released guide's own fill.sh prints them over the translation ebeb2379407015d1… (all of the seat's roots in one cut). By AI agents, Wed Nov 11 2026. No macro, syntax, notation, axiom, sorry.
-/
import Derived.Test.YtebhnfoehgpilaaChecked
import GoSem.Claim
import GoSem.ClaimJoined
import GoSem.ClaimMapViews
import Derived.JoinedTies
import Derived.KernelRfl
namespace Go.Proofs.Ytebhnfoehgpilaa
/- THE CELL 'sum', in the pinned program and in every row, IS THE sha256 OF THE DUMP (.gsa) THAT YtebhnfoehgpilaaProg.lean LOADS. Nothing in Lean hashes anything: it is a label: what it is worth is what the hold of that sum in a sandbox is worth. -/
noncomputable def Try.pinned : Pinned := { name := "ytebhnfoehgpilaa", sum := "ebeb2379407015d1d03cc8a31929d468d37163491aad4e607b8c1417288e929d", checked := Try.checked }
namespace Rows
def none {H : Type} : Left H := { results := [], args := [] }

/-- 'drawloomlaw14.IdeNames': WHATEVER THE INPUT: true; the input reads as it did. -/
def ideNamesSpec : ChangeSpec := { name := "ideNames", fn := fun _ => fun
  | [] => { results := [.lit (.bool true)], args := [] }
  | _ => none }
def ideNamesRow : OpenClaim := { program := "ytebhnfoehgpilaa", sum := "ebeb2379407015d1d03cc8a31929d468d37163491aad4e607b8c1417288e929d", func := "drawloom/drawloomlaw14.IdeNames", spec := "ideNames", apart := false }
def IdeNamesSaid : Prop := ideNamesRow.holds Try.pinned (OpenSpec.ofChange ideNamesSpec)

/-- ITS FALSE NEIGHBOUR: 'it returns false'. Refute it at one input. -/
def ideNamesWrong : ChangeSpec := { name := "ideNames", fn := fun _ => fun
  | [] => { results := [.lit (.bool false)], args := [] }
  | _ => none }
def IdeNamesWrongFalsely : Prop := ideNamesRow.holds Try.pinned (OpenSpec.ofChange ideNamesWrong)

/-- 'drawloomlaw14.IdeTells': WHATEVER THE INPUT: true; the input reads as it did. -/
def ideTellsSpec : ChangeSpec := { name := "ideTells", fn := fun _ => fun
  | [d1, d2] => { results := [.lit (.bool true)], args := [d1, d2] }
  | _ => none }
def ideTellsRow : OpenClaim := { program := "ytebhnfoehgpilaa", sum := "ebeb2379407015d1d03cc8a31929d468d37163491aad4e607b8c1417288e929d", func := "drawloom/drawloomlaw14.IdeTells", spec := "ideTells", apart := false }
def IdeTellsSaid : Prop := ideTellsRow.holds Try.pinned (OpenSpec.ofChange ideTellsSpec)

/-- ITS FALSE NEIGHBOUR: 'it returns false'. Refute it at one input. -/
def ideTellsWrong : ChangeSpec := { name := "ideTells", fn := fun _ => fun
  | [d1, d2] => { results := [.lit (.bool false)], args := [d1, d2] }
  | _ => none }
def IdeTellsWrongFalsely : Prop := ideTellsRow.holds Try.pinned (OpenSpec.ofChange ideTellsWrong)

/-- 'drawloomlaw14.IdeBack': WHATEVER THE INPUT: true; the input reads as it did. -/
def ideBackSpec : ChangeSpec := { name := "ideBack", fn := fun _ => fun
  | [d1, d2, d3, d4] => { results := [.lit (.bool true)], args := [d1, d2, d3, d4] }
  | _ => none }
def ideBackRow : OpenClaim := { program := "ytebhnfoehgpilaa", sum := "ebeb2379407015d1d03cc8a31929d468d37163491aad4e607b8c1417288e929d", func := "drawloom/drawloomlaw14.IdeBack", spec := "ideBack", apart := false }
def IdeBackSaid : Prop := ideBackRow.holds Try.pinned (OpenSpec.ofChange ideBackSpec)

/-- ITS FALSE NEIGHBOUR: 'it returns false'. Refute it at one input. -/
def ideBackWrong : ChangeSpec := { name := "ideBack", fn := fun _ => fun
  | [d1, d2, d3, d4] => { results := [.lit (.bool false)], args := [d1, d2, d3, d4] }
  | _ => none }
def IdeBackWrongFalsely : Prop := ideBackRow.holds Try.pinned (OpenSpec.ofChange ideBackWrong)

/-- 'drawloomlaw14.IdeStays': WHATEVER THE INPUT: true; the input reads as it did. -/
def ideStaysSpec : ChangeSpec := { name := "ideStays", fn := fun _ => fun
  | [d1, d2] => { results := [.lit (.bool true)], args := [d1, d2] }
  | _ => none }
def ideStaysRow : OpenClaim := { program := "ytebhnfoehgpilaa", sum := "ebeb2379407015d1d03cc8a31929d468d37163491aad4e607b8c1417288e929d", func := "drawloom/drawloomlaw14.IdeStays", spec := "ideStays", apart := false }
def IdeStaysSaid : Prop := ideStaysRow.holds Try.pinned (OpenSpec.ofChange ideStaysSpec)

/-- ITS FALSE NEIGHBOUR: 'it returns false'. Refute it at one input. -/
def ideStaysWrong : ChangeSpec := { name := "ideStays", fn := fun _ => fun
  | [d1, d2] => { results := [.lit (.bool false)], args := [d1, d2] }
  | _ => none }
def IdeStaysWrongFalsely : Prop := ideStaysRow.holds Try.pinned (OpenSpec.ofChange ideStaysWrong)

/-- 'drawloomlaw14.IdePlays': WHATEVER THE INPUT: true; the input reads as it did. -/
def idePlaysSpec : ChangeSpec := { name := "idePlays", fn := fun _ => fun
  | [d1, d2] => { results := [.lit (.bool true)], args := [d1, d2] }
  | _ => none }
def idePlaysRow : OpenClaim := { program := "ytebhnfoehgpilaa", sum := "ebeb2379407015d1d03cc8a31929d468d37163491aad4e607b8c1417288e929d", func := "drawloom/drawloomlaw14.IdePlays", spec := "idePlays", apart := false }
def IdePlaysSaid : Prop := idePlaysRow.holds Try.pinned (OpenSpec.ofChange idePlaysSpec)

/-- ITS FALSE NEIGHBOUR: 'it returns false'. Refute it at one input. -/
def idePlaysWrong : ChangeSpec := { name := "idePlays", fn := fun _ => fun
  | [d1, d2] => { results := [.lit (.bool false)], args := [d1, d2] }
  | _ => none }
def IdePlaysWrongFalsely : Prop := idePlaysRow.holds Try.pinned (OpenSpec.ofChange idePlaysWrong)

/-- 'drawloomlaw14.IdeNil': WHATEVER THE INPUT: true; the input reads as it did. -/
def ideNilSpec : ChangeSpec := { name := "ideNil", fn := fun _ => fun
  | [d] => { results := [.lit (.bool true)], args := [d] }
  | _ => none }
def ideNilRow : OpenClaim := { program := "ytebhnfoehgpilaa", sum := "ebeb2379407015d1d03cc8a31929d468d37163491aad4e607b8c1417288e929d", func := "drawloom/drawloomlaw14.IdeNil", spec := "ideNil", apart := false }
def IdeNilSaid : Prop := ideNilRow.holds Try.pinned (OpenSpec.ofChange ideNilSpec)

/-- ITS FALSE NEIGHBOUR: 'it returns false'. Refute it at one input. -/
def ideNilWrong : ChangeSpec := { name := "ideNil", fn := fun _ => fun
  | [d] => { results := [.lit (.bool false)], args := [d] }
  | _ => none }
def IdeNilWrongFalsely : Prop := ideNilRow.holds Try.pinned (OpenSpec.ofChange ideNilWrong)

/- THE SECOND FORM. 'bulk': how many values and letters a reading holds, each counted each time it is reached (what is shared counts as often as it is met; a slice's spare places count too). A statement '..UptoSaid' is the law's where the arguments, and the package variables that the reading takes, are together of bulk at most 1048576: NARROWER than '..Said'. Prove '..Said' where nothing that the law and all that it calls make is longer than what came in: it says more and counts as full. Else prove '..UptoSaid'. A law counts once. -/
mutual
def uptoBulk {H : Type} : DataW H → Nat
  | .lit (.string bytes) => bytes.length + 1
  | .lit _ => 1
  | .nil => 1
  | .ptr d => uptoBulk d + 1
  | .slice elems spare => uptoBulkAll elems + uptoBulkAll spare + 1
  | .agg parts => uptoBulkAll parts + 1
  | .iface _ d => uptoBulk d + 1
  | .map entries => uptoBulkEntries entries + 1
  | .held _ => 1
def uptoBulkAll {H : Type} : List (DataW H) → Nat
  | [] => 0
  | d :: r => uptoBulk d + uptoBulkAll r
def uptoBulkEntries {H : Type} : List (Lit × DataW H) → Nat
  | [] => 0
  | x :: r => uptoBulkEntry x + uptoBulkEntries r
def uptoBulkEntry {H : Type} : Lit × DataW H → Nat
  | (.string bytes, d) => bytes.length + uptoBulk d + 1
  | (_, d) => uptoBulk d + 1
 end
def uptoSmall : (H : Type) → List (DataW H) → Bool := fun _ ds => decide (uptoBulkAll ds ≤ 1048576)
def OpenSpec.upto (s : _root_.Go.ChangeSpec) : _root_.Go.OpenSpec := { _root_.Go.OpenSpec.ofChange s with cond := some uptoSmall }

/-- 'drawloomlaw14.IdeNames', WHERE WHAT IT READS IS OF BULK AT MOST 1048576: true; the input reads as it did. -/
def ideNamesUptoRow : OpenClaim := { program := "ytebhnfoehgpilaa", sum := "ebeb2379407015d1d03cc8a31929d468d37163491aad4e607b8c1417288e929d", func := "drawloom/drawloomlaw14.IdeNames", spec := "ideNames", apart := false, narrowed := true }
def IdeNamesUptoSaid : Prop := ideNamesUptoRow.holds Try.pinned (OpenSpec.upto ideNamesSpec)

/-- 'drawloomlaw14.IdeTells', WHERE WHAT IT READS IS OF BULK AT MOST 1048576: true; the input reads as it did. -/
def ideTellsUptoRow : OpenClaim := { program := "ytebhnfoehgpilaa", sum := "ebeb2379407015d1d03cc8a31929d468d37163491aad4e607b8c1417288e929d", func := "drawloom/drawloomlaw14.IdeTells", spec := "ideTells", apart := false, narrowed := true }
def IdeTellsUptoSaid : Prop := ideTellsUptoRow.holds Try.pinned (OpenSpec.upto ideTellsSpec)

/-- 'drawloomlaw14.IdeBack', WHERE WHAT IT READS IS OF BULK AT MOST 1048576: true; the input reads as it did. -/
def ideBackUptoRow : OpenClaim := { program := "ytebhnfoehgpilaa", sum := "ebeb2379407015d1d03cc8a31929d468d37163491aad4e607b8c1417288e929d", func := "drawloom/drawloomlaw14.IdeBack", spec := "ideBack", apart := false, narrowed := true }
def IdeBackUptoSaid : Prop := ideBackUptoRow.holds Try.pinned (OpenSpec.upto ideBackSpec)

/-- 'drawloomlaw14.IdeStays', WHERE WHAT IT READS IS OF BULK AT MOST 1048576: true; the input reads as it did. -/
def ideStaysUptoRow : OpenClaim := { program := "ytebhnfoehgpilaa", sum := "ebeb2379407015d1d03cc8a31929d468d37163491aad4e607b8c1417288e929d", func := "drawloom/drawloomlaw14.IdeStays", spec := "ideStays", apart := false, narrowed := true }
def IdeStaysUptoSaid : Prop := ideStaysUptoRow.holds Try.pinned (OpenSpec.upto ideStaysSpec)

/-- 'drawloomlaw14.IdePlays', WHERE WHAT IT READS IS OF BULK AT MOST 1048576: true; the input reads as it did. -/
def idePlaysUptoRow : OpenClaim := { program := "ytebhnfoehgpilaa", sum := "ebeb2379407015d1d03cc8a31929d468d37163491aad4e607b8c1417288e929d", func := "drawloom/drawloomlaw14.IdePlays", spec := "idePlays", apart := false, narrowed := true }
def IdePlaysUptoSaid : Prop := idePlaysUptoRow.holds Try.pinned (OpenSpec.upto idePlaysSpec)

/-- 'drawloomlaw14.IdeNil', WHERE WHAT IT READS IS OF BULK AT MOST 1048576: true; the input reads as it did. -/
def ideNilUptoRow : OpenClaim := { program := "ytebhnfoehgpilaa", sum := "ebeb2379407015d1d03cc8a31929d468d37163491aad4e607b8c1417288e929d", func := "drawloom/drawloomlaw14.IdeNil", spec := "ideNil", apart := false, narrowed := true }
def IdeNilUptoSaid : Prop := ideNilUptoRow.holds Try.pinned (OpenSpec.upto ideNilSpec)

end Rows
end Go.Proofs.Ytebhnfoehgpilaa
