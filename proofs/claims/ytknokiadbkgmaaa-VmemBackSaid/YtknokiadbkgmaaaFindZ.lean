/- page.Find. -/
import Derived.Test.YtknokiadbkgmaaaFindFF
import Derived.Test.YtknokiadbkgmaaaFindFT
import Derived.Test.YtknokiadbkgmaaaFindTF
import Derived.Test.YtknokiadbkgmaaaFindTT
namespace Go.Proofs.Ytknokiadbkgmaaa
open Go.RowKit Go.MapKept
set_option linter.unusedVariables false

theorem find_any {w : World} {b : Nat} {S : Nat → Prop} {R : RS} (H : Ram w b S R) (cr3 lin : Nat) (hc : cr3 < 4294967296) (hl : lin < 4294967296) (wr us wp : Bool) :
    Calls Try.prog 51 #[.pointer (some ⟨b, 0, .none⟩), .int .u32 cr3, .int .u32 lin, .agg #[.bool wr, .bool us, .bool wp]] w (FindEnd w b S (find R cr3 lin wr us wp)) := by
  cases wr <;> cases us
  · exact find_ff H cr3 lin hc hl wp
  · exact find_ft H cr3 lin hc hl wp
  · exact find_tf H cr3 lin hc hl wp
  · exact find_tt H cr3 lin hc hl wp
set_option maxHeartbeats 1000000 in
theorem find_nil (w : World) (cr3 lin : Int) (a b c : Bool) :
    Calls Try.prog 51 #[.pointer .none, .int .u32 cr3, .int .u32 lin, .agg #[.bool a, .bool b, .bool c]] w fun e w' =>
      e = .returned (.tuple #[walk0.val, .int .i64 0, .int .i64 1]) ∧ Below w.heap.size w w' := by
  go_enter Try.func51, Try.ntmps51
  go_wp2_with fail
  go_returns
  exact ⟨rfl, by repeat' (first | (with_reducible exact Below.refl _ _) | (with_reducible refine Below.setCell ?_ (by first | (simp; done) | (simp; omega)) _) | (with_reducible refine below_dn ?_ _) | (with_reducible refine Below.alloc ?_ (by first | (simp; done) | (simp; omega)) _))⟩
end Go.Proofs.Ytknokiadbkgmaaa
