/-
  No cell of these rows narrows 'for every input' (looked for: loops, veiled, ifaces, maps, wideKeys, modest, calm, conditions, laid).
  DERIVED. THE GIVEN ROWS OF THIS SEAT. 4 by the template 'for every input the law returns true; each argument reads behind the call as it read before'; 0 by the template 'total and deterministic' (their statements: YtipkfbfmpnilmaaTotals.lean).
  GIVEN WITH THE SEED: the statements are not yours to turn. If you find one false, say at which input.
  Laid BY PROGRAM, IN A SANDBOX (cutbox-rows.mjs): the forced cells as the released guide's own fill.sh prints them over the translation a7b8a181dc0f1e66… (all of the seat's roots in one cut). By AI agents, Wed Nov 11 2026. No macro, syntax, notation, axiom, sorry.
-/
import Derived.Test.YtipkfbfmpnilmaaChecked
import GoSem.Claim
import GoSem.ClaimJoined
import GoSem.ClaimMapViews
import Derived.JoinedTies
import Derived.KernelRfl
namespace Go.Proofs.Ytipkfbfmpnilmaa
/- THE CELL 'sum', in the pinned program and in every row, IS THE sha256 OF THE DUMP (.gsa) THAT YtipkfbfmpnilmaaProg.lean LOADS. Nothing in Lean hashes anything: it is a label: what it is worth is what the hold of that sum in a sandbox is worth. -/
noncomputable def Try.pinned : Pinned := { name := "ytipkfbfmpnilmaa", sum := "a7b8a181dc0f1e661abe8962ec7d4768f4d24166a7e29e00aaab54bb5f5f4e5a", checked := Try.checked }
namespace Rows
def none {H : Type} : Left H := { results := [], args := [] }

/-- 'drawloomlaw09.PageNil': WHATEVER THE INPUT: true; the input reads as it did. -/
def pageNilSpec : ChangeSpec := { name := "pageNil", fn := fun _ => fun
  | [d] => { results := [.lit (.bool true)], args := [d] }
  | _ => none }
def pageNilRow : OpenClaim := { program := "ytipkfbfmpnilmaa", sum := "a7b8a181dc0f1e661abe8962ec7d4768f4d24166a7e29e00aaab54bb5f5f4e5a", func := "drawloom/drawloomlaw09.PageNil", spec := "pageNil", apart := false }
def PageNilSaid : Prop := pageNilRow.holds Try.pinned (OpenSpec.ofChange pageNilSpec)

/-- ITS FALSE NEIGHBOUR: 'it returns false'. Refute it at one input. -/
def pageNilWrong : ChangeSpec := { name := "pageNil", fn := fun _ => fun
  | [d] => { results := [.lit (.bool false)], args := [d] }
  | _ => none }
def PageNilWrongFalsely : Prop := pageNilRow.holds Try.pinned (OpenSpec.ofChange pageNilWrong)

/-- 'drawloomlaw09.PageMoves': WHATEVER THE INPUT: true; the input reads as it did. -/
def pageMovesSpec : ChangeSpec := { name := "pageMoves", fn := fun _ => fun
  | [d1, d2, d3, d4] => { results := [.lit (.bool true)], args := [d1, d2, d3, d4] }
  | _ => none }
def pageMovesRow : OpenClaim := { program := "ytipkfbfmpnilmaa", sum := "a7b8a181dc0f1e661abe8962ec7d4768f4d24166a7e29e00aaab54bb5f5f4e5a", func := "drawloom/drawloomlaw09.PageMoves", spec := "pageMoves", apart := false }
def PageMovesSaid : Prop := pageMovesRow.holds Try.pinned (OpenSpec.ofChange pageMovesSpec)

/-- ITS FALSE NEIGHBOUR: 'it returns false'. Refute it at one input. -/
def pageMovesWrong : ChangeSpec := { name := "pageMoves", fn := fun _ => fun
  | [d1, d2, d3, d4] => { results := [.lit (.bool false)], args := [d1, d2, d3, d4] }
  | _ => none }
def PageMovesWrongFalsely : Prop := pageMovesRow.holds Try.pinned (OpenSpec.ofChange pageMovesWrong)

/-- 'drawloomlaw09.PageFinds': WHATEVER THE INPUT: true; the input reads as it did. -/
def pageFindsSpec : ChangeSpec := { name := "pageFinds", fn := fun _ => fun
  | [d1, d2, d3] => { results := [.lit (.bool true)], args := [d1, d2, d3] }
  | _ => none }
def pageFindsRow : OpenClaim := { program := "ytipkfbfmpnilmaa", sum := "a7b8a181dc0f1e661abe8962ec7d4768f4d24166a7e29e00aaab54bb5f5f4e5a", func := "drawloom/drawloomlaw09.PageFinds", spec := "pageFinds", apart := false }
def PageFindsSaid : Prop := pageFindsRow.holds Try.pinned (OpenSpec.ofChange pageFindsSpec)

/-- ITS FALSE NEIGHBOUR: 'it returns false'. Refute it at one input. -/
def pageFindsWrong : ChangeSpec := { name := "pageFinds", fn := fun _ => fun
  | [d1, d2, d3] => { results := [.lit (.bool false)], args := [d1, d2, d3] }
  | _ => none }
def PageFindsWrongFalsely : Prop := pageFindsRow.holds Try.pinned (OpenSpec.ofChange pageFindsWrong)

/-- 'drawloomlaw09.PageLess': WHATEVER THE INPUT: true; the input reads as it did. -/
def pageLessSpec : ChangeSpec := { name := "pageLess", fn := fun _ => fun
  | [d1, d2] => { results := [.lit (.bool true)], args := [d1, d2] }
  | _ => none }
def pageLessRow : OpenClaim := { program := "ytipkfbfmpnilmaa", sum := "a7b8a181dc0f1e661abe8962ec7d4768f4d24166a7e29e00aaab54bb5f5f4e5a", func := "drawloom/drawloomlaw09.PageLess", spec := "pageLess", apart := false }
def PageLessSaid : Prop := pageLessRow.holds Try.pinned (OpenSpec.ofChange pageLessSpec)

/-- ITS FALSE NEIGHBOUR: 'it returns false'. Refute it at one input. -/
def pageLessWrong : ChangeSpec := { name := "pageLess", fn := fun _ => fun
  | [d1, d2] => { results := [.lit (.bool false)], args := [d1, d2] }
  | _ => none }
def PageLessWrongFalsely : Prop := pageLessRow.holds Try.pinned (OpenSpec.ofChange pageLessWrong)

/- THE SECOND FORM. 'bulk': how many values and letters a reading holds, each counted each time it is reached (what is shared counts as often as it is met; a slice's spare places count too). A statement '..UptoSaid' is the law's where the arguments, and the package variables that the reading takes, are together of bulk at most 1048576: NARROWER than '..Said'. Prove '..Said' where nothing that the law and all that it calls make is longer than what came in: it says more and counts as full. Else prove '..UptoSaid'. A law counts once. -/
mutual
def uptoBulk {H : Type} : DataW H → Nat
  | .lit (.string bytes) => bytes.length + 1
  | .lit _ => 1
  | .nil => 1
  | .ptr d => uptoBulk d + 1
  | .slice elems spare => uptoBulkAll elems + uptoBulkAll spare + 1
  | .agg parts => uptoBulkAll parts + 1
  | .iface _ d => uptoBulk d + 1
  | .map entries => uptoBulkEntries entries + 1
  | .held _ => 1
def uptoBulkAll {H : Type} : List (DataW H) → Nat
  | [] => 0
  | d :: r => uptoBulk d + uptoBulkAll r
def uptoBulkEntries {H : Type} : List (Lit × DataW H) → Nat
  | [] => 0
  | x :: r => uptoBulkEntry x + uptoBulkEntries r
def uptoBulkEntry {H : Type} : Lit × DataW H → Nat
  | (.string bytes, d) => bytes.length + uptoBulk d + 1
  | (_, d) => uptoBulk d + 1
 end
def uptoSmall : (H : Type) → List (DataW H) → Bool := fun _ ds => decide (uptoBulkAll ds ≤ 1048576)
def OpenSpec.upto (s : _root_.Go.ChangeSpec) : _root_.Go.OpenSpec := { _root_.Go.OpenSpec.ofChange s with cond := some uptoSmall }

/-- 'drawloomlaw09.PageNil', WHERE WHAT IT READS IS OF BULK AT MOST 1048576: true; the input reads as it did. -/
def pageNilUptoRow : OpenClaim := { program := "ytipkfbfmpnilmaa", sum := "a7b8a181dc0f1e661abe8962ec7d4768f4d24166a7e29e00aaab54bb5f5f4e5a", func := "drawloom/drawloomlaw09.PageNil", spec := "pageNil", apart := false, narrowed := true }
def PageNilUptoSaid : Prop := pageNilUptoRow.holds Try.pinned (OpenSpec.upto pageNilSpec)

/-- 'drawloomlaw09.PageMoves', WHERE WHAT IT READS IS OF BULK AT MOST 1048576: true; the input reads as it did. -/
def pageMovesUptoRow : OpenClaim := { program := "ytipkfbfmpnilmaa", sum := "a7b8a181dc0f1e661abe8962ec7d4768f4d24166a7e29e00aaab54bb5f5f4e5a", func := "drawloom/drawloomlaw09.PageMoves", spec := "pageMoves", apart := false, narrowed := true }
def PageMovesUptoSaid : Prop := pageMovesUptoRow.holds Try.pinned (OpenSpec.upto pageMovesSpec)

/-- 'drawloomlaw09.PageFinds', WHERE WHAT IT READS IS OF BULK AT MOST 1048576: true; the input reads as it did. -/
def pageFindsUptoRow : OpenClaim := { program := "ytipkfbfmpnilmaa", sum := "a7b8a181dc0f1e661abe8962ec7d4768f4d24166a7e29e00aaab54bb5f5f4e5a", func := "drawloom/drawloomlaw09.PageFinds", spec := "pageFinds", apart := false, narrowed := true }
def PageFindsUptoSaid : Prop := pageFindsUptoRow.holds Try.pinned (OpenSpec.upto pageFindsSpec)

/-- 'drawloomlaw09.PageLess', WHERE WHAT IT READS IS OF BULK AT MOST 1048576: true; the input reads as it did. -/
def pageLessUptoRow : OpenClaim := { program := "ytipkfbfmpnilmaa", sum := "a7b8a181dc0f1e661abe8962ec7d4768f4d24166a7e29e00aaab54bb5f5f4e5a", func := "drawloom/drawloomlaw09.PageLess", spec := "pageLess", apart := false, narrowed := true }
def PageLessUptoSaid : Prop := pageLessUptoRow.holds Try.pinned (OpenSpec.upto pageLessSpec)

end Rows
end Go.Proofs.Ytipkfbfmpnilmaa
