/-
  No cell of these rows narrows 'for every input' (looked for: loops, veiled, ifaces, maps, wideKeys, modest, calm, conditions, laid).
  DERIVED. THE GIVEN ROWS OF THIS SEAT. 5 by the template 'for every input the law returns true; each argument reads behind the call as it read before'; 0 by the template 'total and deterministic' (their statements: YtfijohgbgadhiaaTotals.lean).
  GIVEN WITH THE SEED: the statements are not yours to turn. If you find one false, say at which input.
  Laid BY PROGRAM, IN A SANDBOX (cutbox-rows.mjs): the forced cells as the released guide's own fill.sh prints them over the translation 1dde64aabe222e88… (all of the seat's roots in one cut). By AI agents, Wed Nov 11 2026. No macro, syntax, notation, axiom, sorry.
-/
import Derived.Test.YtfijohgbgadhiaaChecked
import GoSem.Claim
import GoSem.ClaimJoined
import GoSem.ClaimMapViews
import Derived.JoinedTies
import Derived.KernelRfl
namespace Go.Proofs.Ytfijohgbgadhiaa
/- THE CELL 'sum', in the pinned program and in every row, IS THE sha256 OF THE DUMP (.gsa) THAT YtfijohgbgadhiaaProg.lean LOADS. Nothing in Lean hashes anything: it is a label: what it is worth is what the hold of that sum in a sandbox is worth. -/
noncomputable def Try.pinned : Pinned := { name := "ytfijohgbgadhiaa", sum := "1dde64aabe222e88ece237ee4b5ba315bc0412ff5aa0a82dcd6f1f0a8ac0eb2d", checked := Try.checked }
namespace Rows
def none {H : Type} : Left H := { results := [], args := [] }

/-- 'drawloomlaw11.PicOrders': WHATEVER THE INPUT: true; the input reads as it did. -/
def picOrdersSpec : ChangeSpec := { name := "picOrders", fn := fun _ => fun
  | [d1, d2] => { results := [.lit (.bool true)], args := [d1, d2] }
  | _ => none }
def picOrdersRow : OpenClaim := { program := "ytfijohgbgadhiaa", sum := "1dde64aabe222e88ece237ee4b5ba315bc0412ff5aa0a82dcd6f1f0a8ac0eb2d", func := "drawloom/drawloomlaw11.PicOrders", spec := "picOrders", unfollowed := true, recurses := true, apart := false }
def PicOrdersSaid : Prop := picOrdersRow.holds Try.pinned (OpenSpec.ofChange picOrdersSpec)

/-- ITS FALSE NEIGHBOUR: 'it returns false'. Refute it at one input. -/
def picOrdersWrong : ChangeSpec := { name := "picOrders", fn := fun _ => fun
  | [d1, d2] => { results := [.lit (.bool false)], args := [d1, d2] }
  | _ => none }
def PicOrdersWrongFalsely : Prop := picOrdersRow.holds Try.pinned (OpenSpec.ofChange picOrdersWrong)

/-- 'drawloomlaw11.PicMasks': WHATEVER THE INPUT: true; the input reads as it did. -/
def picMasksSpec : ChangeSpec := { name := "picMasks", fn := fun _ => fun
  | [d1, d2] => { results := [.lit (.bool true)], args := [d1, d2] }
  | _ => none }
def picMasksRow : OpenClaim := { program := "ytfijohgbgadhiaa", sum := "1dde64aabe222e88ece237ee4b5ba315bc0412ff5aa0a82dcd6f1f0a8ac0eb2d", func := "drawloom/drawloomlaw11.PicMasks", spec := "picMasks", unfollowed := true, recurses := true, apart := false }
def PicMasksSaid : Prop := picMasksRow.holds Try.pinned (OpenSpec.ofChange picMasksSpec)

/-- ITS FALSE NEIGHBOUR: 'it returns false'. Refute it at one input. -/
def picMasksWrong : ChangeSpec := { name := "picMasks", fn := fun _ => fun
  | [d1, d2] => { results := [.lit (.bool false)], args := [d1, d2] }
  | _ => none }
def PicMasksWrongFalsely : Prop := picMasksRow.holds Try.pinned (OpenSpec.ofChange picMasksWrong)

/-- 'drawloomlaw11.PicEnds': WHATEVER THE INPUT: true; the input reads as it did. -/
def picEndsSpec : ChangeSpec := { name := "picEnds", fn := fun _ => fun
  | [d1, d2, d3] => { results := [.lit (.bool true)], args := [d1, d2, d3] }
  | _ => none }
def picEndsRow : OpenClaim := { program := "ytfijohgbgadhiaa", sum := "1dde64aabe222e88ece237ee4b5ba315bc0412ff5aa0a82dcd6f1f0a8ac0eb2d", func := "drawloom/drawloomlaw11.PicEnds", spec := "picEnds", unfollowed := true, recurses := true, apart := false }
def PicEndsSaid : Prop := picEndsRow.holds Try.pinned (OpenSpec.ofChange picEndsSpec)

/-- ITS FALSE NEIGHBOUR: 'it returns false'. Refute it at one input. -/
def picEndsWrong : ChangeSpec := { name := "picEnds", fn := fun _ => fun
  | [d1, d2, d3] => { results := [.lit (.bool false)], args := [d1, d2, d3] }
  | _ => none }
def PicEndsWrongFalsely : Prop := picEndsRow.holds Try.pinned (OpenSpec.ofChange picEndsWrong)

/-- 'drawloomlaw11.PicPlays': WHATEVER THE INPUT: true; the input reads as it did. -/
def picPlaysSpec : ChangeSpec := { name := "picPlays", fn := fun _ => fun
  | [d] => { results := [.lit (.bool true)], args := [d] }
  | _ => none }
def picPlaysRow : OpenClaim := { program := "ytfijohgbgadhiaa", sum := "1dde64aabe222e88ece237ee4b5ba315bc0412ff5aa0a82dcd6f1f0a8ac0eb2d", func := "drawloom/drawloomlaw11.PicPlays", spec := "picPlays", unfollowed := true, recurses := true, apart := false }
def PicPlaysSaid : Prop := picPlaysRow.holds Try.pinned (OpenSpec.ofChange picPlaysSpec)

/-- ITS FALSE NEIGHBOUR: 'it returns false'. Refute it at one input. -/
def picPlaysWrong : ChangeSpec := { name := "picPlays", fn := fun _ => fun
  | [d] => { results := [.lit (.bool false)], args := [d] }
  | _ => none }
def PicPlaysWrongFalsely : Prop := picPlaysRow.holds Try.pinned (OpenSpec.ofChange picPlaysWrong)

/-- 'drawloomlaw11.PicNil': WHATEVER THE INPUT: true; the input reads as it did. -/
def picNilSpec : ChangeSpec := { name := "picNil", fn := fun _ => fun
  | [d] => { results := [.lit (.bool true)], args := [d] }
  | _ => none }
def picNilRow : OpenClaim := { program := "ytfijohgbgadhiaa", sum := "1dde64aabe222e88ece237ee4b5ba315bc0412ff5aa0a82dcd6f1f0a8ac0eb2d", func := "drawloom/drawloomlaw11.PicNil", spec := "picNil", unfollowed := true, recurses := true, apart := false }
def PicNilSaid : Prop := picNilRow.holds Try.pinned (OpenSpec.ofChange picNilSpec)

/-- ITS FALSE NEIGHBOUR: 'it returns false'. Refute it at one input. -/
def picNilWrong : ChangeSpec := { name := "picNil", fn := fun _ => fun
  | [d] => { results := [.lit (.bool false)], args := [d] }
  | _ => none }
def PicNilWrongFalsely : Prop := picNilRow.holds Try.pinned (OpenSpec.ofChange picNilWrong)

/- THE SECOND FORM. 'bulk': how many values and letters a reading holds, each counted each time it is reached (what is shared counts as often as it is met; a slice's spare places count too). A statement '..UptoSaid' is the law's where the arguments, and the package variables that the reading takes, are together of bulk at most 1048576: NARROWER than '..Said'. Prove '..Said' where nothing that the law and all that it calls make is longer than what came in: it says more and counts as full. Else prove '..UptoSaid'. A law counts once. -/
mutual
def uptoBulk {H : Type} : DataW H → Nat
  | .lit (.string bytes) => bytes.length + 1
  | .lit _ => 1
  | .nil => 1
  | .ptr d => uptoBulk d + 1
  | .slice elems spare => uptoBulkAll elems + uptoBulkAll spare + 1
  | .agg parts => uptoBulkAll parts + 1
  | .iface _ d => uptoBulk d + 1
  | .map entries => uptoBulkEntries entries + 1
  | .held _ => 1
def uptoBulkAll {H : Type} : List (DataW H) → Nat
  | [] => 0
  | d :: r => uptoBulk d + uptoBulkAll r
def uptoBulkEntries {H : Type} : List (Lit × DataW H) → Nat
  | [] => 0
  | x :: r => uptoBulkEntry x + uptoBulkEntries r
def uptoBulkEntry {H : Type} : Lit × DataW H → Nat
  | (.string bytes, d) => bytes.length + uptoBulk d + 1
  | (_, d) => uptoBulk d + 1
 end
def uptoSmall : (H : Type) → List (DataW H) → Bool := fun _ ds => decide (uptoBulkAll ds ≤ 1048576)
def OpenSpec.upto (s : _root_.Go.ChangeSpec) : _root_.Go.OpenSpec := { _root_.Go.OpenSpec.ofChange s with cond := some uptoSmall }

/-- 'drawloomlaw11.PicOrders', WHERE WHAT IT READS IS OF BULK AT MOST 1048576: true; the input reads as it did. -/
def picOrdersUptoRow : OpenClaim := { program := "ytfijohgbgadhiaa", sum := "1dde64aabe222e88ece237ee4b5ba315bc0412ff5aa0a82dcd6f1f0a8ac0eb2d", func := "drawloom/drawloomlaw11.PicOrders", spec := "picOrders", unfollowed := true, recurses := true, apart := false, narrowed := true }
def PicOrdersUptoSaid : Prop := picOrdersUptoRow.holds Try.pinned (OpenSpec.upto picOrdersSpec)

/-- 'drawloomlaw11.PicMasks', WHERE WHAT IT READS IS OF BULK AT MOST 1048576: true; the input reads as it did. -/
def picMasksUptoRow : OpenClaim := { program := "ytfijohgbgadhiaa", sum := "1dde64aabe222e88ece237ee4b5ba315bc0412ff5aa0a82dcd6f1f0a8ac0eb2d", func := "drawloom/drawloomlaw11.PicMasks", spec := "picMasks", unfollowed := true, recurses := true, apart := false, narrowed := true }
def PicMasksUptoSaid : Prop := picMasksUptoRow.holds Try.pinned (OpenSpec.upto picMasksSpec)

/-- 'drawloomlaw11.PicEnds', WHERE WHAT IT READS IS OF BULK AT MOST 1048576: true; the input reads as it did. -/
def picEndsUptoRow : OpenClaim := { program := "ytfijohgbgadhiaa", sum := "1dde64aabe222e88ece237ee4b5ba315bc0412ff5aa0a82dcd6f1f0a8ac0eb2d", func := "drawloom/drawloomlaw11.PicEnds", spec := "picEnds", unfollowed := true, recurses := true, apart := false, narrowed := true }
def PicEndsUptoSaid : Prop := picEndsUptoRow.holds Try.pinned (OpenSpec.upto picEndsSpec)

/-- 'drawloomlaw11.PicPlays', WHERE WHAT IT READS IS OF BULK AT MOST 1048576: true; the input reads as it did. -/
def picPlaysUptoRow : OpenClaim := { program := "ytfijohgbgadhiaa", sum := "1dde64aabe222e88ece237ee4b5ba315bc0412ff5aa0a82dcd6f1f0a8ac0eb2d", func := "drawloom/drawloomlaw11.PicPlays", spec := "picPlays", unfollowed := true, recurses := true, apart := false, narrowed := true }
def PicPlaysUptoSaid : Prop := picPlaysUptoRow.holds Try.pinned (OpenSpec.upto picPlaysSpec)

/-- 'drawloomlaw11.PicNil', WHERE WHAT IT READS IS OF BULK AT MOST 1048576: true; the input reads as it did. -/
def picNilUptoRow : OpenClaim := { program := "ytfijohgbgadhiaa", sum := "1dde64aabe222e88ece237ee4b5ba315bc0412ff5aa0a82dcd6f1f0a8ac0eb2d", func := "drawloom/drawloomlaw11.PicNil", spec := "picNil", unfollowed := true, recurses := true, apart := false, narrowed := true }
def PicNilUptoSaid : Prop := picNilUptoRow.holds Try.pinned (OpenSpec.upto picNilSpec)

end Rows
end Go.Proofs.Ytfijohgbgadhiaa
