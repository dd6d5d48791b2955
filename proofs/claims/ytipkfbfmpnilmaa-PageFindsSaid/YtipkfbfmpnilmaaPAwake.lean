/- page's law: the calls at the head of all statements. -/
import Derived.Test.YtipkfbfmpnilmaaFindZ
import Derived.Test.YtipkfbfmpnilmaaBoth
namespace Go.Proofs.Ytipkfbfmpnilmaa
open Go.RowKit Go.MapKept
set_option linter.unusedVariables false

def exAt (i : Nat) : Nat := if i = 0 then 4100 else 8200
def exV (i : Nat) : Nat := if i = 0 then 8199 else 20485
def exR0 : RS := bothR 16 exAt exV 2 (fun _ => 0) 0
def exR1 : RS := (find exR0 4096 4202787 false false false).2.2
def exR2 : RS := (find exR1 4096 4202787 true true false).2.2
set_option maxRecDepth 100000 in
theorem ex_a : (find exR0 4096 4202787 false false false).1 = ⟨20480, 4100, 8200, false, true⟩ := by kernel_rfl
set_option maxRecDepth 100000 in
theorem ex_b : (find exR0 4096 4202787 false false false).2.1 = -1 := by kernel_rfl
set_option maxRecDepth 100000 in
theorem ex_c : (find exR1 4096 4202787 true true false).2.1 = 7 := by kernel_rfl
set_option maxRecDepth 100000 in
theorem ex_d : exR2.read 4100 4 = 8231 := by kernel_rfl
set_option maxRecDepth 100000 in
theorem ex_e : exR2.read 8200 4 = 20517 := by kernel_rfl
theorem ex_av : (find exR0 4096 4202787 false false false).1.val = .agg #[.int .u32 20480, .int .u32 4100, .int .u32 8200, .bool false, .bool true] := by rw [ex_a]; rfl
set_option maxRecDepth 100000 in
theorem ex_cv : (find exR1 4096 4202787 true true false).1.val = .agg #[.int .u32 0, .int .u32 0, .int .u32 0, .bool false, .bool false] := by kernel_rfl
set_option maxHeartbeats 1000000 in
theorem example_any (w : World) : Calls Try.prog 13 #[] w fun e w' => e = .returned (.slice (some ⟨w.heap.size, 0, .none⟩) 2 2) ∧ WordsAt w' w.heap.size 0 2 exAt exV ∧ Below w.heap.size w w' := by
  go_enter Try.func13, Try.ntmps13
  go_wp2_with fail
  go_returns
  have h := heap_new w (.cells #[.int .u32 4100, .int .u32 8199, .int .u32 8200, .int .u32 20485] 58)
  refine ⟨rfl, ⟨?_, ?_, ?_, ?_, heap_lt h⟩, by go_grown⟩
  · intro i hi
    rw [cell_at h]
    rcases (show i = 0 ∨ i = 1 by omega) with rfl | rfl <;> rfl
  · intro i hi
    rw [cell_at h]
    rcases (show i = 0 ∨ i = 1 by omega) with rfl | rfl <;> rfl
  · intro i _; unfold exAt; split <;> decide
  · intro i _; unfold exV; split <;> decide
set_option maxRecDepth 100000 in
set_option maxHeartbeats 4000000 in
theorem awake_any (w : World) : Calls Try.prog 7 #[] w fun e w' => e = .returned (.bool true) ∧ Below w.heap.size w w' := by
  have E1 := Lib.hid ex_av
  have E2 := Lib.hid ex_b
  have E3 := Lib.hid ex_c
  have E6 := Lib.hid ex_cv
  have E4 := Lib.hid ex_d
  have E5 := Lib.hid ex_e
  go_enter Try.func7, Try.ntmps7
  go_wp2_with fail
  refine (example_any _).mono ?_
  rintro e w1 ⟨rfl, W1, B1⟩
  go_wp2_with fail
  refine (both_any w1 16 (some ⟨w.heap.size, 0, .none⟩) 2 2 exAt exV (.inr ⟨_, _, rfl, W1⟩) .none 0 0 (fun _ => 0) (.inl rfl) (by decide) (by decide)).mono ?_
  rintro e w2 ⟨b, S, b', S', rfl, T⟩
  have T : Two w1 w2 b S exR0 b' S' exR0 := T
  go_wp2_with fail
  refine (find_any T.m 4096 4202787 (by decide) (by decide) false false false).mono ?_
  rintro e w3 ⟨rfl, S3, H3, M3⟩
  rw [E1.out, E2.out]
  have T3 : Two w1 w3 b S3 exR1 b' S' exR0 := T.moveM H3 M3
  clear T H3 M3
  have hz3 : ∀ k, S3 k → k < w3.heap.size := fun k h => T3.m.lt h
  go_wp2_with fail
  refine (find_any (T3.m.below (by repeat' (first | (with_reducible exact Below.refl _ _) | (with_reducible refine Below.setCell ?_ (by first | (simp; done) | (simp; omega)) _) | (with_reducible refine below_dn ?_ _) | (with_reducible refine Below.alloc ?_ (by first | (simp; done) | (simp; omega)) _)))) 4096 4202787 (by decide) (by decide) true true false).mono ?_
  rintro e w4 ⟨rfl, S4, H4, M4⟩
  have T4 : Two w1 w4 b S4 exR2 b' S' exR0 := (T3.alloc _).moveM H4 M4
  have hz := heap_keeps M4.1 (fun h => Nat.lt_irrefl _ (T3.m.lt h)) (heap_new w3 _)
  have z0 := cell_at (k := 0) hz
  have z1 := cell_at (k := 1) hz
  have z2 := cell_at (k := 2) hz
  have z3 := cell_at (k := 3) hz
  have z4 := cell_at (k := 4) hz
  have zl := heap_lt hz
  simp at z0 z1 z2 z3 z4
  rw [E6.out, E3.out]
  clear hz H4 M4 T3
  go_wp2_with fail
  refine (read_4 (T4.m.below (by repeat' (first | (with_reducible exact Below.refl _ _) | (with_reducible refine Below.setCell ?_ (by first | (simp; done) | (simp; omega)) _) | (with_reducible refine below_dn ?_ _) | (with_reducible refine Below.alloc ?_ (by first | (simp; done) | (simp; omega)) _)))) 4100 (by decide)).mono ?_
  rintro e w5 ⟨rfl, n5, rfl⟩
  rw [E4.out]
  go_wp2_with fail
  refine (read_4 (T4.m.below (by repeat' (first | (with_reducible exact Below.refl _ _) | (with_reducible refine Below.setCell ?_ (by first | (simp; done) | (simp; omega)) _) | (with_reducible refine below_dn ?_ _) | (with_reducible refine Below.alloc ?_ (by first | (simp; done) | (simp; omega)) _)))) 8200 (by decide)).mono ?_
  rintro e w6 ⟨rfl, n6, rfl⟩
  rw [E5.out]
  go_wp2_with fail
  go_returns
  exact ⟨rfl, step_below (step_below B1 T4.B (Nat.le_refl _)) (by repeat' (first | (with_reducible exact Below.refl _ _) | (with_reducible refine Below.setCell ?_ (by first | (simp; done) | (simp; omega)) _) | (with_reducible refine below_dn ?_ _) | (with_reducible refine Below.alloc ?_ (by first | (simp; done) | (simp; omega)) _))) (Nat.le_refl _)⟩
end Go.Proofs.Ytipkfbfmpnilmaa
