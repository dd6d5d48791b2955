/- A region of a function's code, and what stands behind it in its sequence. -/
import Derived.WalkKit
namespace Go.Proofs.Ytknokiadbkgmaaa
open Go

def rgOf (n : Nat) : Code → Option Code
  | .region i o d => if i = n then some (.region i o d) else none
  | .seq a b => match rgOf n a with
    | some c => some c
    | none => rgOf n b
  | .cond _ a b => match rgOf n a with
    | some c => some c
    | none => rgOf n b
  | .block _ c => rgOf n c
  | .loop c => rgOf n c
  | .scope c => rgOf n c
  | _ => none
def isReg (n : Nat) : Code → Bool
  | .region i _ _ => i == n
  | _ => false
def tlOf (n : Nat) : Code → Option Code
  | .seq a b => if isReg n a then some b else
    match tlOf n a with
    | some c => some c
    | none => tlOf n b
  | .cond _ a b => match tlOf n a with
    | some c => some c
    | none => tlOf n b
  | .block _ c => tlOf n c
  | .loop c => tlOf n c
  | .scope c => tlOf n c
  | _ => none
/-- Region n. -/
noncomputable def rg (f : Func) (n : Nat) : Code := ((f.body.bind (rgOf n))).getD .skip
/-- What stands behind it in its sequence. -/
noncomputable def tl (f : Func) (n : Nat) : Code := ((f.body.bind (tlOf n))).getD .skip
end Go.Proofs.Ytknokiadbkgmaaa
