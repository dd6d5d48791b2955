/-
  No cell of these rows narrows 'for every input' (looked for: loops, veiled, ifaces, maps, wideKeys, modest, calm, conditions, laid).
  DERIVED. THE GIVEN ROWS OF THIS SEAT. 6 by the template 'for every input the law returns true; each argument reads behind the call as it read before'; 0 by the template 'total and deterministic' (their statements: YtmpcafdgkbpneaaGreatTotals.lean).
  GIVEN WITH THE SEED: the statements are not yours to turn. If you find one false, say at which input.
  Laid BY PROGRAM, IN A SANDBOX (cutbox-rows.mjs): the forced cells as the released guide's own fill.sh prints them over the translation daa66df7d62c28c2… (all of the seat's roots in one cut). By AI agents, Wed Nov 11 2026. No macro, syntax, notation, axiom, sorry.
-/
import Derived.Test.YtmpcafdgkbpneaaGreatChecked
import GoSem.Claim
import GoSem.ClaimJoined
import GoSem.ClaimMapViews
import Derived.JoinedTies
import Derived.KernelRfl
namespace Go.Proofs.YtmpcafdgkbpneaaGreat
/- THE CELL 'sum', in the pinned program and in every row, IS THE sha256 OF THE DUMP (.gsa) THAT YtmpcafdgkbpneaaGreatProg.lean LOADS. Nothing in Lean hashes anything: it is a label: what it is worth is what the hold of that sum in a sandbox is worth. -/
noncomputable def Tryz.pinned : Pinned := { name := "ytmpcafdgkbpneaagreat", sum := "daa66df7d62c28c2f58bbde379a7dfcf93710f0cf7b23359a1eaf38004c53ecb", checked := Tryz.checked }
namespace Rows
def none {H : Type} : Left H := { results := [], args := [] }

/-- 'drawloomlaw18.ExceptPushes': WHATEVER THE INPUT: true; the input reads as it did. -/
def exceptPushesSpec : ChangeSpec := { name := "exceptPushes", fn := fun _ => fun
  | [d1, d2, d3, d4, d5] => { results := [.lit (.bool true)], args := [d1, d2, d3, d4, d5] }
  | _ => none }
def exceptPushesRow : OpenClaim := { program := "ytmpcafdgkbpneaagreat", sum := "daa66df7d62c28c2f58bbde379a7dfcf93710f0cf7b23359a1eaf38004c53ecb", func := "drawloom/drawloomlaw18.ExceptPushes", spec := "exceptPushes", unfollowed := true, recurses := true, plainKeys := false, apart := false }
def ExceptPushesSaid : Prop := exceptPushesRow.holds Tryz.pinned (OpenSpec.ofChange exceptPushesSpec)

/-- ITS FALSE NEIGHBOUR: 'it returns false'. Refute it at one input. -/
def exceptPushesWrong : ChangeSpec := { name := "exceptPushes", fn := fun _ => fun
  | [d1, d2, d3, d4, d5] => { results := [.lit (.bool false)], args := [d1, d2, d3, d4, d5] }
  | _ => none }
def ExceptPushesWrongFalsely : Prop := exceptPushesRow.holds Tryz.pinned (OpenSpec.ofChange exceptPushesWrong)

/-- 'drawloomlaw18.ExceptPlays': WHATEVER THE INPUT: true; the input reads as it did. -/
def exceptPlaysSpec : ChangeSpec := { name := "exceptPlays", fn := fun _ => fun
  | [d1, d2, d3] => { results := [.lit (.bool true)], args := [d1, d2, d3] }
  | _ => none }
def exceptPlaysRow : OpenClaim := { program := "ytmpcafdgkbpneaagreat", sum := "daa66df7d62c28c2f58bbde379a7dfcf93710f0cf7b23359a1eaf38004c53ecb", func := "drawloom/drawloomlaw18.ExceptPlays", spec := "exceptPlays", unfollowed := true, recurses := true, plainKeys := false, apart := false }
def ExceptPlaysSaid : Prop := exceptPlaysRow.holds Tryz.pinned (OpenSpec.ofChange exceptPlaysSpec)

/-- ITS FALSE NEIGHBOUR: 'it returns false'. Refute it at one input. -/
def exceptPlaysWrong : ChangeSpec := { name := "exceptPlays", fn := fun _ => fun
  | [d1, d2, d3] => { results := [.lit (.bool false)], args := [d1, d2, d3] }
  | _ => none }
def ExceptPlaysWrongFalsely : Prop := exceptPlaysRow.holds Tryz.pinned (OpenSpec.ofChange exceptPlaysWrong)

/-- 'drawloomlaw18.ExceptBack': WHATEVER THE INPUT: true; the input reads as it did. -/
def exceptBackSpec : ChangeSpec := { name := "exceptBack", fn := fun _ => fun
  | [d1, d2, d3, d4, d5, d6] => { results := [.lit (.bool true)], args := [d1, d2, d3, d4, d5, d6] }
  | _ => none }
def exceptBackRow : OpenClaim := { program := "ytmpcafdgkbpneaagreat", sum := "daa66df7d62c28c2f58bbde379a7dfcf93710f0cf7b23359a1eaf38004c53ecb", func := "drawloom/drawloomlaw18.ExceptBack", spec := "exceptBack", unfollowed := true, recurses := true, plainKeys := false, apart := false }
def ExceptBackSaid : Prop := exceptBackRow.holds Tryz.pinned (OpenSpec.ofChange exceptBackSpec)

/-- ITS FALSE NEIGHBOUR: 'it returns false'. Refute it at one input. -/
def exceptBackWrong : ChangeSpec := { name := "exceptBack", fn := fun _ => fun
  | [d1, d2, d3, d4, d5, d6] => { results := [.lit (.bool false)], args := [d1, d2, d3, d4, d5, d6] }
  | _ => none }
def ExceptBackWrongFalsely : Prop := exceptBackRow.holds Tryz.pinned (OpenSpec.ofChange exceptBackWrong)

/-- 'drawloomlaw18.ExceptEnds': WHATEVER THE INPUT: true; the input reads as it did. -/
def exceptEndsSpec : ChangeSpec := { name := "exceptEnds", fn := fun _ => fun
  | [d1, d2, d3, d4] => { results := [.lit (.bool true)], args := [d1, d2, d3, d4] }
  | _ => none }
def exceptEndsRow : OpenClaim := { program := "ytmpcafdgkbpneaagreat", sum := "daa66df7d62c28c2f58bbde379a7dfcf93710f0cf7b23359a1eaf38004c53ecb", func := "drawloom/drawloomlaw18.ExceptEnds", spec := "exceptEnds", unfollowed := true, recurses := true, plainKeys := false, apart := false }
def ExceptEndsSaid : Prop := exceptEndsRow.holds Tryz.pinned (OpenSpec.ofChange exceptEndsSpec)

/-- ITS FALSE NEIGHBOUR: 'it returns false'. Refute it at one input. -/
def exceptEndsWrong : ChangeSpec := { name := "exceptEnds", fn := fun _ => fun
  | [d1, d2, d3, d4] => { results := [.lit (.bool false)], args := [d1, d2, d3, d4] }
  | _ => none }
def ExceptEndsWrongFalsely : Prop := exceptEndsRow.holds Tryz.pinned (OpenSpec.ofChange exceptEndsWrong)

/-- 'drawloomlaw18.ExceptNil': WHATEVER THE INPUT: true; the input reads as it did. -/
def exceptNilSpec : ChangeSpec := { name := "exceptNil", fn := fun _ => fun
  | [d1, d2] => { results := [.lit (.bool true)], args := [d1, d2] }
  | _ => none }
def exceptNilRow : OpenClaim := { program := "ytmpcafdgkbpneaagreat", sum := "daa66df7d62c28c2f58bbde379a7dfcf93710f0cf7b23359a1eaf38004c53ecb", func := "drawloom/drawloomlaw18.ExceptNil", spec := "exceptNil", unfollowed := true, recurses := true, plainKeys := false, apart := false }
def ExceptNilSaid : Prop := exceptNilRow.holds Tryz.pinned (OpenSpec.ofChange exceptNilSpec)

/-- ITS FALSE NEIGHBOUR: 'it returns false'. Refute it at one input. -/
def exceptNilWrong : ChangeSpec := { name := "exceptNil", fn := fun _ => fun
  | [d1, d2] => { results := [.lit (.bool false)], args := [d1, d2] }
  | _ => none }
def ExceptNilWrongFalsely : Prop := exceptNilRow.holds Tryz.pinned (OpenSpec.ofChange exceptNilWrong)

/-- 'drawloomlaw18.ExceptRefuses': WHATEVER THE INPUT: true; the input reads as it did. -/
def exceptRefusesSpec : ChangeSpec := { name := "exceptRefuses", fn := fun _ => fun
  | [d1, d2, d3] => { results := [.lit (.bool true)], args := [d1, d2, d3] }
  | _ => none }
def exceptRefusesRow : OpenClaim := { program := "ytmpcafdgkbpneaagreat", sum := "daa66df7d62c28c2f58bbde379a7dfcf93710f0cf7b23359a1eaf38004c53ecb", func := "drawloom/drawloomlaw18.ExceptRefuses", spec := "exceptRefuses", unfollowed := true, recurses := true, plainKeys := false, apart := false }
def ExceptRefusesSaid : Prop := exceptRefusesRow.holds Tryz.pinned (OpenSpec.ofChange exceptRefusesSpec)

/-- ITS FALSE NEIGHBOUR: 'it returns false'. Refute it at one input. -/
def exceptRefusesWrong : ChangeSpec := { name := "exceptRefuses", fn := fun _ => fun
  | [d1, d2, d3] => { results := [.lit (.bool false)], args := [d1, d2, d3] }
  | _ => none }
def ExceptRefusesWrongFalsely : Prop := exceptRefusesRow.holds Tryz.pinned (OpenSpec.ofChange exceptRefusesWrong)

/- THE SECOND FORM. 'bulk': how many values and letters a reading holds, each counted each time it is reached (what is shared counts as often as it is met; a slice's spare places count too). A statement '..UptoSaid' is the law's where the arguments, and the package variables that the reading takes, are together of bulk at most 1048576: NARROWER than '..Said'. Prove '..Said' where nothing that the law and all that it calls make is longer than what came in: it says more and counts as full. Else prove '..UptoSaid'. A law counts once. -/
mutual
def uptoBulk {H : Type} : DataW H → Nat
  | .lit (.string bytes) => bytes.length + 1
  | .lit _ => 1
  | .nil => 1
  | .ptr d => uptoBulk d + 1
  | .slice elems spare => uptoBulkAll elems + uptoBulkAll spare + 1
  | .agg parts => uptoBulkAll parts + 1
  | .iface _ d => uptoBulk d + 1
  | .map entries => uptoBulkEntries entries + 1
  | .held _ => 1
def uptoBulkAll {H : Type} : List (DataW H) → Nat
  | [] => 0
  | d :: r => uptoBulk d + uptoBulkAll r
def uptoBulkEntries {H : Type} : List (Lit × DataW H) → Nat
  | [] => 0
  | x :: r => uptoBulkEntry x + uptoBulkEntries r
def uptoBulkEntry {H : Type} : Lit × DataW H → Nat
  | (.string bytes, d) => bytes.length + uptoBulk d + 1
  | (_, d) => uptoBulk d + 1
 end
def uptoSmall : (H : Type) → List (DataW H) → Bool := fun _ ds => decide (uptoBulkAll ds ≤ 1048576)
def OpenSpec.upto (s : _root_.Go.ChangeSpec) : _root_.Go.OpenSpec := { _root_.Go.OpenSpec.ofChange s with cond := some uptoSmall }

/-- 'drawloomlaw18.ExceptPushes', WHERE WHAT IT READS IS OF BULK AT MOST 1048576: true; the input reads as it did. -/
def exceptPushesUptoRow : OpenClaim := { program := "ytmpcafdgkbpneaagreat", sum := "daa66df7d62c28c2f58bbde379a7dfcf93710f0cf7b23359a1eaf38004c53ecb", func := "drawloom/drawloomlaw18.ExceptPushes", spec := "exceptPushes", unfollowed := true, recurses := true, plainKeys := false, apart := false, narrowed := true }
def ExceptPushesUptoSaid : Prop := exceptPushesUptoRow.holds Tryz.pinned (OpenSpec.upto exceptPushesSpec)

/-- 'drawloomlaw18.ExceptPlays', WHERE WHAT IT READS IS OF BULK AT MOST 1048576: true; the input reads as it did. -/
def exceptPlaysUptoRow : OpenClaim := { program := "ytmpcafdgkbpneaagreat", sum := "daa66df7d62c28c2f58bbde379a7dfcf93710f0cf7b23359a1eaf38004c53ecb", func := "drawloom/drawloomlaw18.ExceptPlays", spec := "exceptPlays", unfollowed := true, recurses := true, plainKeys := false, apart := false, narrowed := true }
def ExceptPlaysUptoSaid : Prop := exceptPlaysUptoRow.holds Tryz.pinned (OpenSpec.upto exceptPlaysSpec)

/-- 'drawloomlaw18.ExceptBack', WHERE WHAT IT READS IS OF BULK AT MOST 1048576: true; the input reads as it did. -/
def exceptBackUptoRow : OpenClaim := { program := "ytmpcafdgkbpneaagreat", sum := "daa66df7d62c28c2f58bbde379a7dfcf93710f0cf7b23359a1eaf38004c53ecb", func := "drawloom/drawloomlaw18.ExceptBack", spec := "exceptBack", unfollowed := true, recurses := true, plainKeys := false, apart := false, narrowed := true }
def ExceptBackUptoSaid : Prop := exceptBackUptoRow.holds Tryz.pinned (OpenSpec.upto exceptBackSpec)

/-- 'drawloomlaw18.ExceptEnds', WHERE WHAT IT READS IS OF BULK AT MOST 1048576: true; the input reads as it did. -/
def exceptEndsUptoRow : OpenClaim := { program := "ytmpcafdgkbpneaagreat", sum := "daa66df7d62c28c2f58bbde379a7dfcf93710f0cf7b23359a1eaf38004c53ecb", func := "drawloom/drawloomlaw18.ExceptEnds", spec := "exceptEnds", unfollowed := true, recurses := true, plainKeys := false, apart := false, narrowed := true }
def ExceptEndsUptoSaid : Prop := exceptEndsUptoRow.holds Tryz.pinned (OpenSpec.upto exceptEndsSpec)

/-- 'drawloomlaw18.ExceptNil', WHERE WHAT IT READS IS OF BULK AT MOST 1048576: true; the input reads as it did. -/
def exceptNilUptoRow : OpenClaim := { program := "ytmpcafdgkbpneaagreat", sum := "daa66df7d62c28c2f58bbde379a7dfcf93710f0cf7b23359a1eaf38004c53ecb", func := "drawloom/drawloomlaw18.ExceptNil", spec := "exceptNil", unfollowed := true, recurses := true, plainKeys := false, apart := false, narrowed := true }
def ExceptNilUptoSaid : Prop := exceptNilUptoRow.holds Tryz.pinned (OpenSpec.upto exceptNilSpec)

/-- 'drawloomlaw18.ExceptRefuses', WHERE WHAT IT READS IS OF BULK AT MOST 1048576: true; the input reads as it did. -/
def exceptRefusesUptoRow : OpenClaim := { program := "ytmpcafdgkbpneaagreat", sum := "daa66df7d62c28c2f58bbde379a7dfcf93710f0cf7b23359a1eaf38004c53ecb", func := "drawloom/drawloomlaw18.ExceptRefuses", spec := "exceptRefuses", unfollowed := true, recurses := true, plainKeys := false, apart := false, narrowed := true }
def ExceptRefusesUptoSaid : Prop := exceptRefusesUptoRow.holds Tryz.pinned (OpenSpec.upto exceptRefusesSpec)

end Rows
end Go.Proofs.YtmpcafdgkbpneaaGreat
