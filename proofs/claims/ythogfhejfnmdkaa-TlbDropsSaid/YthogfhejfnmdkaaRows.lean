/-
  No cell of these rows narrows 'for every input' (looked for: loops, veiled, ifaces, maps, wideKeys, modest, calm, conditions, laid).
  DERIVED. THE GIVEN ROWS OF THIS SEAT. 5 by the template 'for every input the law returns true; each argument reads behind the call as it read before'; 0 by the template 'total and deterministic' (their statements: YthogfhejfnmdkaaTotals.lean).
  GIVEN WITH THE SEED: the statements are not yours to turn. If you find one false, say at which input.
  Laid BY PROGRAM, IN A SANDBOX (cutbox-rows.mjs): the forced cells as the released guide's own fill.sh prints them over the translation 849bd2e738a2b603… (all of the seat's roots in one cut). By AI agents, Wed Nov 11 2026. No macro, syntax, notation, axiom, sorry.
-/
import Derived.Test.YthogfhejfnmdkaaChecked
import GoSem.Claim
import GoSem.ClaimJoined
import GoSem.ClaimMapViews
import Derived.JoinedTies
import Derived.KernelRfl
namespace Go.Proofs.Ythogfhejfnmdkaa
/- THE CELL 'sum', in the pinned program and in every row, IS THE sha256 OF THE DUMP (.gsa) THAT YthogfhejfnmdkaaProg.lean LOADS. Nothing in Lean hashes anything: it is a label: what it is worth is what the hold of that sum in a sandbox is worth. -/
noncomputable def Try.pinned : Pinned := { name := "ythogfhejfnmdkaa", sum := "849bd2e738a2b6032d2f00d622cff05c266aa6f7b7aa8f66cfe50fab0d134d0c", checked := Try.checked }
namespace Rows
def none {H : Type} : Left H := { results := [], args := [] }

/-- 'drawloomlaw10.TlbNames': WHATEVER THE INPUT: true; the input reads as it did. -/
def tlbNamesSpec : ChangeSpec := { name := "tlbNames", fn := fun _ => fun
  | [] => { results := [.lit (.bool true)], args := [] }
  | _ => none }
def tlbNamesRow : OpenClaim := { program := "ythogfhejfnmdkaa", sum := "849bd2e738a2b6032d2f00d622cff05c266aa6f7b7aa8f66cfe50fab0d134d0c", func := "drawloom/drawloomlaw10.TlbNames", spec := "tlbNames", plainKeys := false, apart := false }
def TlbNamesSaid : Prop := tlbNamesRow.holds Try.pinned (OpenSpec.ofChange tlbNamesSpec)

/-- ITS FALSE NEIGHBOUR: 'it returns false'. Refute it at one input. -/
def tlbNamesWrong : ChangeSpec := { name := "tlbNames", fn := fun _ => fun
  | [] => { results := [.lit (.bool false)], args := [] }
  | _ => none }
def TlbNamesWrongFalsely : Prop := tlbNamesRow.holds Try.pinned (OpenSpec.ofChange tlbNamesWrong)

/-- 'drawloomlaw10.TlbDrops': WHATEVER THE INPUT: true; the input reads as it did. -/
def tlbDropsSpec : ChangeSpec := { name := "tlbDrops", fn := fun _ => fun
  | [d1, d2, d3] => { results := [.lit (.bool true)], args := [d1, d2, d3] }
  | _ => none }
def tlbDropsRow : OpenClaim := { program := "ythogfhejfnmdkaa", sum := "849bd2e738a2b6032d2f00d622cff05c266aa6f7b7aa8f66cfe50fab0d134d0c", func := "drawloom/drawloomlaw10.TlbDrops", spec := "tlbDrops", plainKeys := false, apart := false }
def TlbDropsSaid : Prop := tlbDropsRow.holds Try.pinned (OpenSpec.ofChange tlbDropsSpec)

/-- ITS FALSE NEIGHBOUR: 'it returns false'. Refute it at one input. -/
def tlbDropsWrong : ChangeSpec := { name := "tlbDrops", fn := fun _ => fun
  | [d1, d2, d3] => { results := [.lit (.bool false)], args := [d1, d2, d3] }
  | _ => none }
def TlbDropsWrongFalsely : Prop := tlbDropsRow.holds Try.pinned (OpenSpec.ofChange tlbDropsWrong)

/-- 'drawloomlaw10.TlbNil': WHATEVER THE INPUT: true; the input reads as it did. -/
def tlbNilSpec : ChangeSpec := { name := "tlbNil", fn := fun _ => fun
  | [d1, d2] => { results := [.lit (.bool true)], args := [d1, d2] }
  | _ => none }
def tlbNilRow : OpenClaim := { program := "ythogfhejfnmdkaa", sum := "849bd2e738a2b6032d2f00d622cff05c266aa6f7b7aa8f66cfe50fab0d134d0c", func := "drawloom/drawloomlaw10.TlbNil", spec := "tlbNil", plainKeys := false, apart := false }
def TlbNilSaid : Prop := tlbNilRow.holds Try.pinned (OpenSpec.ofChange tlbNilSpec)

/-- ITS FALSE NEIGHBOUR: 'it returns false'. Refute it at one input. -/
def tlbNilWrong : ChangeSpec := { name := "tlbNil", fn := fun _ => fun
  | [d1, d2] => { results := [.lit (.bool false)], args := [d1, d2] }
  | _ => none }
def TlbNilWrongFalsely : Prop := tlbNilRow.holds Try.pinned (OpenSpec.ofChange tlbNilWrong)

/-- 'drawloomlaw10.TlbUnseen': WHATEVER THE INPUT: true; the input reads as it did. -/
def tlbUnseenSpec : ChangeSpec := { name := "tlbUnseen", fn := fun _ => fun
  | [d1, d2] => { results := [.lit (.bool true)], args := [d1, d2] }
  | _ => none }
def tlbUnseenRow : OpenClaim := { program := "ythogfhejfnmdkaa", sum := "849bd2e738a2b6032d2f00d622cff05c266aa6f7b7aa8f66cfe50fab0d134d0c", func := "drawloom/drawloomlaw10.TlbUnseen", spec := "tlbUnseen", plainKeys := false, apart := false }
def TlbUnseenSaid : Prop := tlbUnseenRow.holds Try.pinned (OpenSpec.ofChange tlbUnseenSpec)

/-- ITS FALSE NEIGHBOUR: 'it returns false'. Refute it at one input. -/
def tlbUnseenWrong : ChangeSpec := { name := "tlbUnseen", fn := fun _ => fun
  | [d1, d2] => { results := [.lit (.bool false)], args := [d1, d2] }
  | _ => none }
def TlbUnseenWrongFalsely : Prop := tlbUnseenRow.holds Try.pinned (OpenSpec.ofChange tlbUnseenWrong)

/-- 'drawloomlaw10.TlbFinds': WHATEVER THE INPUT: true; the input reads as it did. -/
def tlbFindsSpec : ChangeSpec := { name := "tlbFinds", fn := fun _ => fun
  | [d1, d2, d3, d4] => { results := [.lit (.bool true)], args := [d1, d2, d3, d4] }
  | _ => none }
def tlbFindsRow : OpenClaim := { program := "ythogfhejfnmdkaa", sum := "849bd2e738a2b6032d2f00d622cff05c266aa6f7b7aa8f66cfe50fab0d134d0c", func := "drawloom/drawloomlaw10.TlbFinds", spec := "tlbFinds", plainKeys := false, apart := false }
def TlbFindsSaid : Prop := tlbFindsRow.holds Try.pinned (OpenSpec.ofChange tlbFindsSpec)

/-- ITS FALSE NEIGHBOUR: 'it returns false'. Refute it at one input. -/
def tlbFindsWrong : ChangeSpec := { name := "tlbFinds", fn := fun _ => fun
  | [d1, d2, d3, d4] => { results := [.lit (.bool false)], args := [d1, d2, d3, d4] }
  | _ => none }
def TlbFindsWrongFalsely : Prop := tlbFindsRow.holds Try.pinned (OpenSpec.ofChange tlbFindsWrong)

/- THE SECOND FORM. 'bulk': how many values and letters a reading holds, each counted each time it is reached (what is shared counts as often as it is met; a slice's spare places count too). A statement '..UptoSaid' is the law's where the arguments, and the package variables that the reading takes, are together of bulk at most 1048576: NARROWER than '..Said'. Prove '..Said' where nothing that the law and all that it calls make is longer than what came in: it says more and counts as full. Else prove '..UptoSaid'. A law counts once. -/
mutual
def uptoBulk {H : Type} : DataW H → Nat
  | .lit (.string bytes) => bytes.length + 1
  | .lit _ => 1
  | .nil => 1
  | .ptr d => uptoBulk d + 1
  | .slice elems spare => uptoBulkAll elems + uptoBulkAll spare + 1
  | .agg parts => uptoBulkAll parts + 1
  | .iface _ d => uptoBulk d + 1
  | .map entries => uptoBulkEntries entries + 1
  | .held _ => 1
def uptoBulkAll {H : Type} : List (DataW H) → Nat
  | [] => 0
  | d :: r => uptoBulk d + uptoBulkAll r
def uptoBulkEntries {H : Type} : List (Lit × DataW H) → Nat
  | [] => 0
  | x :: r => uptoBulkEntry x + uptoBulkEntries r
def uptoBulkEntry {H : Type} : Lit × DataW H → Nat
  | (.string bytes, d) => bytes.length + uptoBulk d + 1
  | (_, d) => uptoBulk d + 1
 end
def uptoSmall : (H : Type) → List (DataW H) → Bool := fun _ ds => decide (uptoBulkAll ds ≤ 1048576)
def OpenSpec.upto (s : _root_.Go.ChangeSpec) : _root_.Go.OpenSpec := { _root_.Go.OpenSpec.ofChange s with cond := some uptoSmall }

/-- 'drawloomlaw10.TlbNames', WHERE WHAT IT READS IS OF BULK AT MOST 1048576: true; the input reads as it did. -/
def tlbNamesUptoRow : OpenClaim := { program := "ythogfhejfnmdkaa", sum := "849bd2e738a2b6032d2f00d622cff05c266aa6f7b7aa8f66cfe50fab0d134d0c", func := "drawloom/drawloomlaw10.TlbNames", spec := "tlbNames", plainKeys := false, apart := false, narrowed := true }
def TlbNamesUptoSaid : Prop := tlbNamesUptoRow.holds Try.pinned (OpenSpec.upto tlbNamesSpec)

/-- 'drawloomlaw10.TlbDrops', WHERE WHAT IT READS IS OF BULK AT MOST 1048576: true; the input reads as it did. -/
def tlbDropsUptoRow : OpenClaim := { program := "ythogfhejfnmdkaa", sum := "849bd2e738a2b6032d2f00d622cff05c266aa6f7b7aa8f66cfe50fab0d134d0c", func := "drawloom/drawloomlaw10.TlbDrops", spec := "tlbDrops", plainKeys := false, apart := false, narrowed := true }
def TlbDropsUptoSaid : Prop := tlbDropsUptoRow.holds Try.pinned (OpenSpec.upto tlbDropsSpec)

/-- 'drawloomlaw10.TlbNil', WHERE WHAT IT READS IS OF BULK AT MOST 1048576: true; the input reads as it did. -/
def tlbNilUptoRow : OpenClaim := { program := "ythogfhejfnmdkaa", sum := "849bd2e738a2b6032d2f00d622cff05c266aa6f7b7aa8f66cfe50fab0d134d0c", func := "drawloom/drawloomlaw10.TlbNil", spec := "tlbNil", plainKeys := false, apart := false, narrowed := true }
def TlbNilUptoSaid : Prop := tlbNilUptoRow.holds Try.pinned (OpenSpec.upto tlbNilSpec)

/-- 'drawloomlaw10.TlbUnseen', WHERE WHAT IT READS IS OF BULK AT MOST 1048576: true; the input reads as it did. -/
def tlbUnseenUptoRow : OpenClaim := { program := "ythogfhejfnmdkaa", sum := "849bd2e738a2b6032d2f00d622cff05c266aa6f7b7aa8f66cfe50fab0d134d0c", func := "drawloom/drawloomlaw10.TlbUnseen", spec := "tlbUnseen", plainKeys := false, apart := false, narrowed := true }
def TlbUnseenUptoSaid : Prop := tlbUnseenUptoRow.holds Try.pinned (OpenSpec.upto tlbUnseenSpec)

/-- 'drawloomlaw10.TlbFinds', WHERE WHAT IT READS IS OF BULK AT MOST 1048576: true; the input reads as it did. -/
def tlbFindsUptoRow : OpenClaim := { program := "ythogfhejfnmdkaa", sum := "849bd2e738a2b6032d2f00d622cff05c266aa6f7b7aa8f66cfe50fab0d134d0c", func := "drawloom/drawloomlaw10.TlbFinds", spec := "tlbFinds", plainKeys := false, apart := false, narrowed := true }
def TlbFindsUptoSaid : Prop := tlbFindsUptoRow.holds Try.pinned (OpenSpec.upto tlbFindsSpec)

end Rows
end Go.Proofs.Ythogfhejfnmdkaa
