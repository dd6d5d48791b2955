/- segment: walks of letsOf, Reach. -/
import Derived.Test.YtknokiadbkgmaaaSegW1
import Derived.Lib.Hide
import Derived.Test.YtknokiadbkgmaaaObj
namespace Go.Proofs.Ytknokiadbkgmaaa
open Go.RowKit

theorem tab_lookup' (b : Nat) (c t s : Bool) (w : World) (h : IsTab w b) :
    (Instr.lookup 145 (.map (some b)) (.agg #[.bool c, .bool t, .bool s]) false).run Try.prog w = .ok (.agg #[.bool (!c || s), .bool (!c && s), .bool (!c && t), .bool (c && t)]) w :=
  tab_lookup b c t s w h

set_option maxHeartbeats 1000000 in
theorem letsOf_yes (b l t p : Int) (s r g : Bool) (w : World) (hk : isK t s = true) :
    Calls Try.prog 49 #[.agg #[.int .u32 b, .int .u32 l, .int .i64 t, .bool s, .int .i64 p, .bool r, .bool g]] w fun e w' =>
      e = .returned (tab (tb t 8) (tb t 4) (tb t 2)) ∧ Below w.heap.size w w' := by
  have H := Lib.hid hk; clear hk
  go_enter Try.func49, Try.ntmps49
  go_wp2_with fail
  refine (kindOf_any _ _ _ _ _ _ _ _).mono ?_
  rintro e w1 ⟨rfl, hb⟩
  rw [H.out]
  obtain ⟨hc, hf⟩ := bcell hb
  have hz := hb.size
  simp only [World.size_alloc] at hz hc hf
  have hz1 : w.heap.size + 1 < w1.heap.size := by omega
  have hz0 : w.heap.size < w1.heap.size := by omega
  go_wp2_with fail
  go_region_with (first | (go_at_call 53; refine (rights_any _).mono ?_; rintro e w2 ⟨rfl, hb2, ht⟩; obtain ⟨hc2, hf2⟩ := bcell hb2; have hz2 := hb2.size; simp only [World.size_alloc, World.size_drew] at hz2 hc2 hf2 ht; have hz3 : w.heap.size + 1 < w2.heap.size := (by omega); have hl := tab_lookup' _ (tb t 8) (tb t 4) (tb t 2) _ ht))
  all_goals
    go_wp2
    have hB1 : Below w.heap.size w w1 := step_below (by go_grown) hb (Nat.le_refl _)
    have hB2 : Below w.heap.size w w2 := step_below (by go_grown) hb2 (Nat.le_refl _)
    refine bodyPost_ret (v := tab (tb t 8) (tb t 4) (tb t 2)) (by unfold tab lv; simp only [results, Try.results49]; go_simp) rfl ⟨rfl, by go_grown⟩

set_option maxHeartbeats 1000000 in
theorem letsOf_no (b l t p : Int) (s r g : Bool) (w : World) (hk : isK t s = false) :
    Calls Try.prog 49 #[.agg #[.int .u32 b, .int .u32 l, .int .i64 t, .bool s, .int .i64 p, .bool r, .bool g]] w fun e w' =>
      e = .returned (.agg #[.bool false, .bool false, .bool false, .bool false]) ∧ Below w.heap.size w w' := by
  have H := Lib.hid hk; clear hk
  go_enter Try.func49, Try.ntmps49
  go_wp2_with fail
  refine (kindOf_any _ _ _ _ _ _ _ _).mono ?_
  rintro e w1 ⟨rfl, hb⟩
  rw [H.out]
  obtain ⟨hc, hf⟩ := bcell hb
  have hz := hb.size
  simp only [World.size_alloc] at hz hc hf
  have hz1 : w.heap.size + 1 < w1.heap.size := by omega
  have hz0 : w.heap.size < w1.heap.size := by omega
  go_wp2_with fail
  have hB1 : Below w.heap.size w w1 := step_below (by go_grown) hb (Nat.le_refl _)
  refine bodyPost_ret (v := .agg #[.bool false, .bool false, .bool false, .bool false]) (by simp only [results, Try.results49]; go_simp) rfl ⟨rfl, by go_grown⟩
end Go.Proofs.Ytknokiadbkgmaaa
