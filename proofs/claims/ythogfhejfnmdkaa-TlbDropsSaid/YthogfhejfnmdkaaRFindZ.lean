/- the document's Find, whatever is asked. -/
import Derived.Test.YthogfhejfnmdkaaRFindFF
import Derived.Test.YthogfhejfnmdkaaRFindFT
import Derived.Test.YthogfhejfnmdkaaRFindTF
import Derived.Test.YthogfhejfnmdkaaRFindTT
namespace Go.Proofs.Ythogfhejfnmdkaa
open Go.RowKit
set_option linter.unusedVariables false

theorem rfind_any {w : World} {b : Nat} {S : Nat → Prop} {R : RS} (H : Ref w b S R) (cr3 lin : Nat) (hc : cr3 < 4294967296) (hl : lin < 4294967296) (wr us wp : Bool) :
    Calls Try.prog 19 #[.pointer (some ⟨b, 0, .none⟩), .int .u32 cr3, .int .u32 lin, .agg #[.bool wr, .bool us, .bool wp]] w (RFindEnd w b S (find R cr3 lin wr us wp)) := by
  cases wr <;> cases us
  · exact rfind_ff H cr3 lin hc hl wp
  · exact rfind_ft H cr3 lin hc hl wp
  · exact rfind_tf H cr3 lin hc hl wp
  · exact rfind_tt H cr3 lin hc hl wp
theorem rfind_r {w : World} {b : Nat} {S : Nat → Prop} {R : RS} (H : Ref w b S R) (cr3 lin : Nat) (hc : cr3 < 4294967296) (hl : lin < 4294967296) (wr us wp : Bool) {fr pd pt : Nat} {xw xu : Bool} {cd : Int} {R' : RS}
    (hr : find R cr3 lin wr us wp = (⟨fr, pd, pt, xw, xu⟩, cd, R')) :
    Calls Try.prog 19 #[.pointer (some ⟨b, 0, .none⟩), .int .u32 cr3, .int .u32 lin, .agg #[.bool wr, .bool us, .bool wp]] w fun e w' =>
      e = .returned (.tuple #[.agg #[.int .u32 fr, .int .u32 pd, .int .u32 pt, .bool xw, .bool xu], .int .i64 cd]) ∧ Ref w' b S R' ∧ Keeps S w w' := by
  refine (rfind_any H cr3 lin hc hl wr us wp).mono ?_
  rintro e w' ⟨he, H', K'⟩
  rw [hr] at he H'
  exact ⟨he, H', K'⟩
end Go.Proofs.Ythogfhejfnmdkaa
