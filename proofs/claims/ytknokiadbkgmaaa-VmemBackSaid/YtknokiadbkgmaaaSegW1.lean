/- segment: walks of the small functions. -/
import Derived.Test.YtknokiadbkgmaaaSegRights
import Derived.BigRegion
import Derived.Deep.RegionWith
namespace Go.Proofs.Ytknokiadbkgmaaa
open Go.RowKit

/-- Bits of a type. -/
def tb (t k : Int) : Bool := bits BinOp.and IntKind.i64 t k != 0
def isK (t : Int) (s : Bool) : Bool := !s && decide (0 ≤ t ∧ t < 16)

set_option maxHeartbeats 1000000 in
theorem kindOf_any (b l t p : Int) (s r g : Bool) (w : World) :
    Calls Try.prog 52 #[.agg #[.int .u32 b, .int .u32 l, .int .i64 t, .bool s, .int .i64 p, .bool r, .bool g]] w fun e w' =>
      e = .returned (.tuple #[.agg #[.bool (tb t 8), .bool (tb t 4), .bool (tb t 2)], .bool (isK t s)]) ∧ Below w.heap.size w w' := by
  cases s
  · by_cases h0 : 0 ≤ t
    · by_cases h1 : t < 16
      · go_enter Try.func52, Try.ntmps52
        go_wp2
        go_region
        go_wp2
        go_returns
        refine ⟨by simp [tb, isK, h0, h1], by go_grown⟩
      · go_enter Try.func52, Try.ntmps52
        go_wp2
        have hd : decide (t < 16) = false := by simpa using h1
        go_region
        go_wp2
        go_returns
        refine ⟨by simp [tb, isK, h0, h1], by go_grown⟩
    · go_enter Try.func52, Try.ntmps52
      go_wp2
      have hd : decide (0 ≤ t) = false := by simpa using h0
      go_region
      go_wp2
      go_returns
      refine ⟨by simp [tb, isK]; omega, by go_grown⟩
  · go_enter Try.func52, Try.ntmps52
    go_wp2
    go_region
    go_wp2
    go_returns
    refine ⟨by simp [tb, isK], by go_grown⟩
end Go.Proofs.Ytknokiadbkgmaaa
