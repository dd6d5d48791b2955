/- A descriptor among the arguments, opened by its type alone. -/
import Derived.Test.YtjcgpkokndckfaaFrame
namespace Go.Proofs.Ytjcgpkokndckfaa
open Go.RowKit Go.WideShapes Go.ChangeShapes
theorem open_desc {w : World} {r0 : Reach} {base : Nat} {v : Value} (h : Value.okWide Try.prog w r0 base 25 v) :
    ∃ (b l t p : Int) (s r g : Bool), v = .agg #[.int .u32 b, .int .u32 l, .int .i64 t, .bool s, .int .i64 p, .bool r, .bool g] ∧ 0 ≤ b ∧ b < 4294967296 ∧ 0 ≤ l ∧ l < 4294967296 ∧
      -9223372036854775808 ≤ t ∧ t ≤ 9223372036854775807 ∧ -9223372036854775808 ≤ p ∧ p ≤ 9223372036854775807 := by
  obtain ⟨cs, rfl, hlen, hc⟩ := arg_agg (ts := [23, 23, 3, 4, 3, 4, 4]) Try.underlying25 (by kernel_rfl) (by kernel_rfl) h
  match cs, hlen, hc with
  | [c0, c1, c2, c3, c4, c5, c6], _, hc =>
    obtain ⟨b, rfl, l0, u0⟩ := cell_int Try.underlying23 (hc 0 c0 23 rfl rfl)
    obtain ⟨l, rfl, l1, u1⟩ := cell_int Try.underlying23 (hc 1 c1 23 rfl rfl)
    obtain ⟨t, rfl, l2, u2⟩ := cell_int Try.underlying3 (hc 2 c2 3 rfl rfl)
    obtain ⟨s, rfl⟩ := cell_bool Try.underlying4 (hc 3 c3 4 rfl rfl)
    obtain ⟨p, rfl, l4, u4⟩ := cell_int Try.underlying3 (hc 4 c4 3 rfl rfl)
    obtain ⟨r, rfl⟩ := cell_bool Try.underlying4 (hc 5 c5 4 rfl rfl)
    obtain ⟨g, rfl⟩ := cell_bool Try.underlying4 (hc 6 c6 4 rfl rfl)
    exact ⟨b, l, t, p, s, r, g, rfl, l0, Int.lt_of_le_of_lt u0 (by decide), l1, Int.lt_of_le_of_lt u1 (by decide), l2, u2, l4, u4⟩
end Go.Proofs.Ytjcgpkokndckfaa
