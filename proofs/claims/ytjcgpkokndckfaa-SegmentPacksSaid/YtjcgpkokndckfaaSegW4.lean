/- segment: bit, Parse, and what the awake calls of Fit and Code answer. -/
import Derived.Test.YtjcgpkokndckfaaSegW3
import Derived.Test.YtjcgpkokndckfaaBits
namespace Go.Proofs.Ytjcgpkokndckfaa
open Go.RowKit

set_option maxHeartbeats 400000 in
theorem bit_any (n k : Int) (w : World) (h0 : 0 ≤ n) (h1 : n < 4294967296) (h2 : 0 ≤ k) (_h3 : k < 32) :
    Calls Try.prog 16 #[.int .u32 n, .int .u64 k] w fun e w' => e = .returned (.bool (hbit n k)) ∧ w = w' := by
  have H := Lib.hid (hbit_eq n h0 h1 k)
  go_enter Try.func16, Try.ntmps16
  go_wp2
  go_ret
  exact ⟨by rw [← H.out]; rfl, rfl⟩

set_option maxHeartbeats 1000000 in
theorem parse_any (lo hi : Int) (w : World) (h0 : 0 ≤ lo) (h1 : lo < 4294967296) (h2 : 0 ≤ hi) (h3 : hi < 4294967296) :
    Calls Try.prog 9 #[.int .u32 lo, .int .u32 hi] w fun e w' =>
      e = .returned (.agg #[.int .u32 (pBase lo hi), .int .u32 (pLimit lo hi), .int .i64 (pTy hi), .bool (!hbit hi 12), .int .i64 (pDpl hi), .bool (hbit hi 15), .bool (hbit hi 22)]) ∧
      Below w.heap.size w w' := by
  have L0 := Lib.hid (lim0_eq lo hi h0 h1 h2 h3)
  have L1 := Lib.hid (lim1_eq lo hi)
  have LB := Lib.hid (base_eq lo hi h0 h1 h2 h3)
  have LT := Lib.hid (ty_eq hi h2 h3)
  have LD := Lib.hid (dpl_eq hi h2 h3)
  cases h23 : hbit hi 23
  all_goals
    have H23 := Lib.hid h23
    clear h23
    go_enter Try.func9, Try.ntmps9
    go_wp2_with fail
    refine (bit_any _ _ _ (by omega) (by omega) (by omega) (by omega)).mono ?_
    rintro e w1 ⟨rfl, rfl⟩
    rw [H23.out]
    go_wp2_with (go_at_call 16; refine (bit_any _ _ _ (by omega) (by omega) (by omega) (by omega)).mono ?_; rintro e w1 ⟨rfl, rfl⟩)
    go_returns
    refine ⟨?_, by go_grown⟩
    rw [LB.out, LT.out, LD.out, L0.out]
    first | (rw [L1.out]; simp [pLimit, H23.out]; done) | (simp [pLimit, H23.out]; done)

set_option maxHeartbeats 1000000 in
theorem fit_awake (w : World) : Calls Try.prog 14 #[.int .i64 3, .int .u16 19, .agg #[.int .u32 0, .int .u32 7, .int .i64 2, .bool false, .int .i64 0, .bool true, .bool false], .int .i64 0] w fun e w' =>
    e = .returned (.int .i64 13) ∧ Below w.heap.size w w' := by
  have hR : lR 2 false = true := by decide
  have e19 : bits BinOp.and IntKind.u16 19 3 = 3 := by decide
  have e3 : wrap64 3 = 3 := IntWalk.wrap64_in _ (by omega)
  have hW : lW 2 false = true := by decide
  have hD : lD 2 false = false := by decide
  have hC : lC 2 false = false := by decide
  go_enter Try.func14, Try.ntmps14
  go_wp2_with fail
  refine (letsOf_any _ _ _ _ _ _ _ _).mono ?_
  rintro e w1 ⟨rfl, hb⟩
  rw [hR, hW, hD, hC]
  obtain ⟨hc, hf⟩ := bcell hb
  have hz := hb.size
  simp only [World.size_alloc] at hz hc hf
  have hz0 : w.heap.size < w1.heap.size := by omega
  have hB1 : Below w.heap.size w w1 := step_below (by go_grown) hb (Nat.le_refl _)
  go_wp2_with fail
  go_ret
  exact ⟨rfl, by go_grown⟩

set_option maxHeartbeats 1000000 in
theorem code_awake (w : World) : Calls Try.prog 15 #[.int .u16 8, .agg #[.int .u32 0, .int .u32 4294967295, .int .i64 10, .bool false, .int .i64 0, .bool true, .bool true], .int .i64 0] w fun e w' =>
    e = .returned (.int .i64 (-1)) ∧ Below w.heap.size w w' := by
  have h8 : tb 10 8 = true := by decide
  have e19 : bits BinOp.and IntKind.u16 8 3 = 0 := by decide
  have e3 : wrap64 0 = 0 := IntWalk.wrap64_in _ (by omega)
  have h4 : tb 10 4 = false := by decide
  have h2 : tb 10 2 = true := by decide
  have hK : isK 10 false = true := by decide
  go_enter Try.func15, Try.ntmps15
  go_wp2_with fail
  refine (kindOf_any _ _ _ _ _ _ _ _).mono ?_
  rintro e w1 ⟨rfl, hb⟩
  rw [h8, h4, h2, hK]
  obtain ⟨hc, hf⟩ := bcell hb
  have hz := hb.size
  simp only [World.size_alloc] at hz hc hf
  have hz0 : w.heap.size < w1.heap.size := by omega
  have hB1 : Below w.heap.size w w1 := step_below (by go_grown) hb (Nat.le_refl _)
  go_wp2_with fail
  go_ret
  exact ⟨rfl, by go_grown⟩
end Go.Proofs.Ytjcgpkokndckfaa
