/- The document's Parse, walked: the same descriptor. -/
import Derived.Test.YtjcgpkokndckfaaSegW4
namespace Go.Proofs.Ytjcgpkokndckfaa
open Go.RowKit
set_option linter.unusedVariables false

set_option maxHeartbeats 400000 in
theorem has_any (n k : Int) (w : World) (h0 : 0 ≤ n) (h1 : n < 4294967296) (h2 : 0 ≤ k) (_h3 : k < 32) :
    Calls Try.prog 17 #[.int .u32 n, .int .i64 k] w fun e w' => e = .returned (.bool (hbit n k)) ∧ w = w' := by
  go_enter Try.func17, Try.ntmps17
  go_wp2
  go_ret
  refine ⟨?_, rfl⟩
  have hp : 0 ≤ n / 2 ^ k.toNat := Int.ediv_nonneg h0 (Int.le_of_lt (Int.pow_pos (by decide)))
  have e : (n / 2 ^ k.toNat).tmod 2 = n / 2 ^ k.toNat % 2 := Int.tmod_eq_emod_of_nonneg hp
  unfold hbit
  rw [← e]
  rfl

set_option maxHeartbeats 1000000 in
theorem rparse_any (lo hi : Int) (w : World) (h0 : 0 ≤ lo) (h1 : lo < 4294967296) (h2 : 0 ≤ hi) (h3 : hi < 4294967296) :
    Calls Try.prog 10 #[.int .u32 lo, .int .u32 hi] w fun e w' =>
      e = .returned (.agg #[.int .u32 (pBase lo hi), .int .u32 (pLimit lo hi), .int .i64 (pTy hi), .bool (!hbit hi 12), .int .i64 (pDpl hi), .bool (hbit hi 15), .bool (hbit hi 22)]) ∧
      Below w.heap.size w w' := by
  cases h23 : hbit hi 23
  all_goals
    have H23 := Lib.hid h23
    clear h23
    go_enter Try.func10, Try.ntmps10
    go_wp2_with fail
    refine (has_any _ _ _ (by omega) (by omega) (by omega) (by omega)).mono ?_
    rintro e w1 ⟨rfl, rfl⟩
    rw [H23.out]
    go_wp2_with (go_at_call 17; refine (has_any _ _ _ (by omega) (by omega) (by omega) (by omega)).mono ?_; rintro e w1 ⟨rfl, rfl⟩)
    go_returns
    refine ⟨?_, by go_grown⟩
    simp [pBase, pLimit, pLim0, pTy, pDpl, H23.out]
end Go.Proofs.Ytjcgpkokndckfaa
