/- tlb: awake. -/
import Derived.Test.YthogfhejfnmdkaaTlbE
namespace Go.Proofs.Ythogfhejfnmdkaa
open Go.RowKit Go.MapKept
set_option linter.unusedVariables false

def exAt (i : Nat) : Nat := if i = 0 then 4100 else 8200
def exV (i : Nat) : Nat := if i = 0 then 8199 else 20485
def exR0 : RS := bothR 16 exAt exV 2 (fun _ => 0) 0
def exR1 : RS := (find exR0 4096 4202787 false false false).2.2
def exR2 : RS := exR1.write 8200 24581 4
def exR3 : RS := (find exR2 4096 4202787 false false false).2.2
set_option maxRecDepth 100000 in
theorem ex_a : (find exR0 4096 4202787 false false false).1 = ⟨20480, 4100, 8200, false, true⟩ := by kernel_rfl
set_option maxRecDepth 100000 in
theorem ex_b : (find exR0 4096 4202787 false false false).2.1 = -1 := by kernel_rfl
set_option maxRecDepth 100000 in
theorem ex_c : (find exR2 4096 4202787 false false false).1 = ⟨24576, 4100, 8200, false, true⟩ := by kernel_rfl
set_option maxRecDepth 100000 in
theorem ex_d : (find exR2 4096 4202787 false false false).2.1 = -1 := by kernel_rfl
theorem triple {r : WalkR × Int × RS} {a : WalkR} {b : Int} (h1 : r.1 = a) (h2 : r.2.1 = b) : r = (a, b, r.2.2) := by
  obtain ⟨x, y, z⟩ := r
  simp only at h1 h2
  rw [h1, h2]
theorem ex_1 : find exR0 4096 4202787 false false false = (⟨20480, 4100, 8200, false, true⟩, -1, exR1) := triple ex_a ex_b
theorem ex_2 : find exR2 4096 4202787 false false false = (⟨24576, 4100, 8200, false, true⟩, -1, exR3) := triple ex_c ex_d
set_option maxRecDepth 20000 in
set_option maxHeartbeats 4000000 in
theorem awake_any (w : World) : Calls Try.prog 8 #[] w fun e w' => e = .returned (.bool true) ∧ Below w.heap.size w w' := by
  have E1 := Lib.hid ex_1
  have E2 := Lib.hid ex_2
  go_enter Try.func8, Try.ntmps8
  go_wp2_with fail
  have hB1 := (Below.refl w.heap.size w).alloc (Nat.le_refl _) (.cells #[.int .u32 4100, .int .u32 8199, .int .u32 8200, .int .u32 20485] 48)
  have h := heap_new w (.cells #[.int .u32 4100, .int .u32 8199, .int .u32 8200, .int .u32 20485] 48)
  have W1 : WordsAt (w.alloc (.cells #[.int .u32 4100, .int .u32 8199, .int .u32 8200, .int .u32 20485] 48)) w.heap.size 0 2 exAt exV := by
    refine ⟨?_, ?_, ?_, ?_, heap_lt h⟩
    · intro i hi
      rw [cell_at h]
      rcases (show i = 0 ∨ i = 1 by omega) with rfl | rfl <;> rfl
    · intro i hi
      rw [cell_at h]
      rcases (show i = 0 ∨ i = 1 by omega) with rfl | rfl <;> rfl
    · intro i _; unfold exAt; split <;> decide
    · intro i _; unfold exV; split <;> decide
  have HB1 := Lib.hid hB1
  have HW1 := Lib.hid W1
  obtain ⟨g0, hg0⟩ : ∃ g0, g0 = w.heap.size := ⟨_, rfl⟩
  rw [← hg0] at HW1 ⊢
  clear hB1 h W1 hg0
  generalize w.alloc (.cells #[.int .u32 4100, .int .u32 8199, .int .u32 8200, .int .u32 20485] 48) = w1 at *
  refine (both_any w1 16 (some ⟨g0, 0, .none⟩) 2 2 exAt exV (.inr ⟨_, _, rfl, HW1.out⟩) .none 0 0 (fun _ => 0) (.inl rfl) (by decide) (by decide)).mono ?_
  rintro e w2 ⟨b, S, b', S', rfl, T⟩
  have T : Two w1 w2 b S exR0 b' S' exR0 := T
  have HS := Lib.hid (show Sep w1 w2 S none_ none_ from ⟨fun _ _ h => h, fun _ h => h.elim, fun _ h => h.elim, T.l1, fun _ h => h.elim, fun _ h => h.elim, fun k h => T.m.lt h, fun _ h => h.elim, fun _ h => h.elim, T.B⟩)
  have HM := Lib.hid T.m
  clear T
  go_wp2_with fail
  refine (tl_new HM.out (Wide.both _ _ _ _ _ _) 2 (by decide) 2 rfl).mono ?_
  rintro e w3 ⟨t, H, rfl, hT, hM, hb⟩
  have HS3 := Lib.hid (HS.out.move hM hT.lt)
  have HT := Lib.hid hT
  clear hT hM hb
  go_wp2_with fail
  refine (tnew_bad w3 ⟨b, 0, none⟩ 65 (by decide)).mono ?_
  rintro e w4 ⟨rfl, rfl⟩
  go_wp2_with fail
  refine (tl_find HT.out 4096 4202787 (by decide) (by decide) false false false (by decide) _ _ rfl rfl E1.out).mono ?_
  rintro e w4 ⟨rfl, cnt4, H4, hT, hM⟩
  have HS4 := Lib.hid (HS3.out.move hM hT.lt)
  have HT4 := Lib.hid hT
  clear hT hM
  go_upto_region 7 with (fail)
  have hx := heap_new w4 (.cells #[.int .u32 20480, .int .u32 4100, .int .u32 8200, .bool false, .bool true] 38)
  have HT5 := Lib.hid (HT4.out.alloc (.cells #[.int .u32 20480, .int .u32 4100, .int .u32 8200, .bool false, .bool true] 38))
  have hg : ¬ H4 w4.heap.size := fun h => by have := HT4.out.lt _ h; omega
  have HS5 := Lib.hid (HS4.out.below ((Below.refl w4.heap.size w4).alloc (Nat.le_refl _) (.cells #[.int .u32 20480, .int .u32 4100, .int .u32 8200, .bool false, .bool true] 38)))
  generalize hW : w4.alloc (.cells #[.int .u32 20480, .int .u32 4100, .int .u32 8200, .bool false, .bool true] 38) = w5 at *
  generalize hG : w4.heap.size = gx at *
  have HX := Lib.hid hx
  have HGX := Lib.hid hg
  clear hW hG HT4 HS4 hx hg
  go_wp2_with fail
  refine (tl_write HT5.out 8200 24581 (by decide) (by decide) _ _ rfl rfl).mono ?_
  rintro e w6 ⟨rfl, H6, hT, hM⟩
  have HS6 := Lib.hid (HS5.out.move hM hT.lt)
  have HX6 := Lib.hid ((hM.1.block gx (heap_lt HX.out) HGX.out).trans HX.out)
  have HG6 := Lib.hid (show ¬ H6 gx from fun h => by rcases hM.2 gx h with h | h; exact HGX.out h; have := heap_lt HX.out; omega)
  have HT6 := Lib.hid hT
  clear hT hM HT5 HS5 HX HGX
  go_wp2_with fail
  refine (tl_find HT6.out 4096 4202787 (by decide) (by decide) false false false (by decide) _ _ rfl rfl E2.out).mono ?_
  rintro e w7 ⟨rfl, cnt7, H7, hT, hM⟩
  have HS7 := Lib.hid (HS6.out.move hM hT.lt)
  have hX7 := (hM.1.block gx (heap_lt HX6.out) HG6.out).trans HX6.out
  have x0 := cell_at (k := 0) hX7
  have xl := heap_lt hX7
  simp at x0
  clear hT hM hX7
  go_wp2_with fail
  go_ret
  exact ⟨rfl, step_below (step_below HB1.out HS7.out.B (Nat.le_refl _)) (by repeat' (first | (with_reducible exact Below.refl _ _) | (with_reducible refine Below.setCell ?_ (by first | (simp; done) | (simp; omega)) _) | (with_reducible refine below_dn ?_ _) | (with_reducible refine Below.alloc ?_ (by first | (simp; done) | (simp; omega)) _))) (Nat.le_refl _)⟩
end Go.Proofs.Ythogfhejfnmdkaa
