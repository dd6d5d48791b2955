/- segment: the awake calls answer as the document says. -/
import Derived.Test.YtjcgpkokndckfaaSegW4
namespace Go.Proofs.Ytjcgpkokndckfaa
open Go.RowKit

set_option maxHeartbeats 2000000 in
theorem awake_any (w : World) : Calls Try.prog 8 #[] w fun e w' => e = .returned (.bool true) ∧ Below w.heap.size w w' := by
  have q1 : pBase 65535 13605376 = 0 := by decide
  have q2 : pLimit 65535 13605376 = 4294967295 := by decide
  have q3 : pTy 13605376 = 10 := by decide
  have q4 : pDpl 13605376 = 0 := by decide
  have q5 : hbit 13605376 12 = true := by decide
  have q6 : hbit 13605376 15 = true := by decide
  have q7 : hbit 13605376 22 = true := by decide
  have r1 : reach 7 2 false true false 4 4 true = true := by decide
  have r2 : reach 7 2 false true false 5 4 false = false := by decide
  go_enter Try.func8, Try.ntmps8
  go_wp2_with fail
  refine (parse_any _ _ _ (by decide) (by decide) (by decide) (by decide)).mono ?_
  rintro e w1 ⟨rfl, hb1⟩
  rw [q1, q2, q3, q4, q5, q6, q7]
  have hz1 := hb1.size
  clear q1 q2 q3 q4 q5 q6 q7
  have hB1 : Below w.heap.size w w1 := hb1
  go_wp2_with fail
  refine (reach_four _ _ _ _ _ _ _ _ _ _ (by decide) (by decide) (by decide) (by decide)).mono ?_
  rintro e w2 ⟨rfl, hb2⟩
  rw [r1]
  have hB2 : Below w.heap.size w w2 := step_below (by go_grown) hb2 (Nat.le_refl _)
  obtain ⟨hc2, hf2⟩ := bcell hb2
  have hz2 := hb2.size
  simp only [World.size_alloc] at hz2 hc2 hf2
  go_wp2_with fail
  refine (reach_four _ _ _ _ _ _ _ _ _ _ (by decide) (by decide) (by decide) (by decide)).mono ?_
  rintro e w3 ⟨rfl, hb3⟩
  rw [r2]
  have hB3 : Below w.heap.size w w3 := step_below (by go_grown) hb3 (Nat.le_refl _)
  obtain ⟨hc3, hf3⟩ := bcell hb3
  have hz3 := hb3.size
  have hz13 : w1.heap.size + 2 < w2.heap.size := by omega
  have hz14 : w1.heap.size + 1 < w2.heap.size := by omega
  have hz15 : w1.heap.size < w2.heap.size := by omega
  go_wp2_with fail
  refine (fit_awake _).mono ?_
  rintro e w4 ⟨rfl, hb4⟩
  have hB4 : Below w.heap.size w w4 := step_below (by go_grown) hb4 (Nat.le_refl _)
  obtain ⟨hc4, hf4⟩ := bcell hb4
  have hz4 := hb4.size
  have hz16 : w1.heap.size + 2 < w3.heap.size := by omega
  have hz17 : w1.heap.size + 1 < w3.heap.size := by omega
  have hz18 : w1.heap.size < w3.heap.size := by omega
  go_wp2_with fail
  refine (code_awake _).mono ?_
  rintro e w5 ⟨rfl, hb5⟩
  have hB5 : Below w.heap.size w w5 := step_below (by go_grown) hb5 (Nat.le_refl _)
  go_wp2_with fail
  go_ret
  exact ⟨rfl, by go_grown⟩
end Go.Proofs.Ytjcgpkokndckfaa
