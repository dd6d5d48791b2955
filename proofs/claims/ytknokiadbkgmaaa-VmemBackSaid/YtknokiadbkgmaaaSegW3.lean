/- segment: Reach. -/
import Derived.Test.YtknokiadbkgmaaaSegW2
namespace Go.Proofs.Ytknokiadbkgmaaa
open Go.RowKit

def lR (t : Int) (s : Bool) : Bool := isK t s && (!tb t 8 || tb t 2)
def lW (t : Int) (s : Bool) : Bool := isK t s && (!tb t 8 && tb t 2)
def lD (t : Int) (s : Bool) : Bool := isK t s && (!tb t 8 && tb t 4)
def lC (t : Int) (s : Bool) : Bool := isK t s && (tb t 8 && tb t 4)

theorem letsOf_any (b l t p : Int) (s r g : Bool) (w : World) :
    Calls Try.prog 49 #[.agg #[.int .u32 b, .int .u32 l, .int .i64 t, .bool s, .int .i64 p, .bool r, .bool g]] w fun e w' =>
      e = .returned (.agg #[.bool (lR t s), .bool (lW t s), .bool (lD t s), .bool (lC t s)]) ∧ Below w.heap.size w w' := by
  cases hk : isK t s with
  | true => exact (letsOf_yes b l t p s r g w hk).mono fun e w' ⟨he, hb⟩ => ⟨by rw [he]; simp [lR, lW, lD, lC, hk, tab, lv], hb⟩
  | false => exact (letsOf_no b l t p s r g w hk).mono fun e w' ⟨he, hb⟩ => ⟨by rw [he]; simp [lR, lW, lD, lC, hk], hb⟩

def reach (l t : Int) (s r g : Bool) (off size : Int) (wr : Bool) : Bool :=
  r && lR t s && (!wr || lW t s) && (if lD t s then decide (l < off) && decide (off + size - 1 ≤ if g then 4294967295 else 65535) else decide (off + size - 1 ≤ l))

set_option maxHeartbeats 2000000 in
theorem reach_one (b l t p : Int) (s r g : Bool) (off : Int) (wr : Bool) (w : World) (h0 : 0 ≤ off) (h1 : off < 4294967296) (h2 : 0 ≤ l) (h3 : l < 4294967296) :
    Calls Try.prog 46 #[.agg #[.int .u32 b, .int .u32 l, .int .i64 t, .bool s, .int .i64 p, .bool r, .bool g], .int .u32 off, .int .i64 1, .bool wr] w fun e w' =>
      e = .returned (.bool (reach l t s r g off 1 wr)) ∧ Below w.heap.size w w' := by
  go_enter Try.func46, Try.ntmps46
  go_wp2_with fail
  refine (letsOf_any _ _ _ _ _ _ _ _).mono ?_
  rintro e w1 ⟨rfl, hb⟩
  obtain ⟨hc, hf⟩ := bcell hb
  have hz := hb.size
  simp only [World.size_alloc] at hz hc hf
  have hz0 : w.heap.size < w1.heap.size := by omega
  have hB1 : Below w.heap.size w w1 := step_below (by go_grown) hb (Nat.le_refl _)
  go_wp2_with fail
  all_goals
    go_ret
    refine ⟨?_, by go_grown⟩
    clear hc hf
    first | (simp_all [reach]; done) | (simp_all [reach]; omega)

set_option maxHeartbeats 2000000 in
theorem reach_two (b l t p : Int) (s r g : Bool) (off : Int) (wr : Bool) (w : World) (h0 : 0 ≤ off) (h1 : off < 4294967296) (h2 : 0 ≤ l) (h3 : l < 4294967296) :
    Calls Try.prog 46 #[.agg #[.int .u32 b, .int .u32 l, .int .i64 t, .bool s, .int .i64 p, .bool r, .bool g], .int .u32 off, .int .i64 2, .bool wr] w fun e w' =>
      e = .returned (.bool (reach l t s r g off 2 wr)) ∧ Below w.heap.size w w' := by
  go_enter Try.func46, Try.ntmps46
  go_wp2_with fail
  refine (letsOf_any _ _ _ _ _ _ _ _).mono ?_
  rintro e w1 ⟨rfl, hb⟩
  obtain ⟨hc, hf⟩ := bcell hb
  have hz := hb.size
  simp only [World.size_alloc] at hz hc hf
  have hz0 : w.heap.size < w1.heap.size := by omega
  have hB1 : Below w.heap.size w w1 := step_below (by go_grown) hb (Nat.le_refl _)
  go_wp2_with fail
  all_goals
    go_ret
    refine ⟨?_, by go_grown⟩
    clear hc hf
    first | (simp_all [reach]; done) | (simp_all [reach]; omega)

set_option maxHeartbeats 2000000 in
theorem reach_four (b l t p : Int) (s r g : Bool) (off : Int) (wr : Bool) (w : World) (h0 : 0 ≤ off) (h1 : off < 4294967296) (h2 : 0 ≤ l) (h3 : l < 4294967296) :
    Calls Try.prog 46 #[.agg #[.int .u32 b, .int .u32 l, .int .i64 t, .bool s, .int .i64 p, .bool r, .bool g], .int .u32 off, .int .i64 4, .bool wr] w fun e w' =>
      e = .returned (.bool (reach l t s r g off 4 wr)) ∧ Below w.heap.size w w' := by
  go_enter Try.func46, Try.ntmps46
  go_wp2_with fail
  refine (letsOf_any _ _ _ _ _ _ _ _).mono ?_
  rintro e w1 ⟨rfl, hb⟩
  obtain ⟨hc, hf⟩ := bcell hb
  have hz := hb.size
  simp only [World.size_alloc] at hz hc hf
  have hz0 : w.heap.size < w1.heap.size := by omega
  have hB1 : Below w.heap.size w w1 := step_below (by go_grown) hb (Nat.le_refl _)
  go_wp2_with fail
  all_goals
    go_ret
    refine ⟨?_, by go_grown⟩
    clear hc hf
    first | (simp_all [reach]; done) | (simp_all [reach]; omega)

end Go.Proofs.Ytknokiadbkgmaaa
