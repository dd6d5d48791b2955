/- pic: Out$1. -/
import Derived.Test.YtfijohgbgadhiaaPicD
namespace Go.Proofs.Ytfijohgbgadhiaa
open Go.RowKit
set_option linter.unusedVariables false
set_option linter.unusedSimpArgs false

theorem and_bit (v m : Nat) (hm : m = 1 ∨ m = 2 ∨ m = 8 ∨ m = 16) (hv : v < 256) : v &&& m = 0 ∨ v &&& m = m := by
  have h : ∀ y : Fin 256, (y.val &&& 1 = 0 ∨ y.val &&& 1 = 1) ∧ (y.val &&& 2 = 0 ∨ y.val &&& 2 = 2) ∧ (y.val &&& 8 = 0 ∨ y.val &&& 8 = 8) ∧ (y.val &&& 16 = 0 ∨ y.val &&& 16 = 16) := by decide +kernel
  have := h ⟨v, hv⟩
  rcases hm with rfl | rfl | rfl | rfl
  · exact this.1
  · exact this.2.1
  · exact this.2.2.1
  · exact this.2.2.2
/-- A byte's bit. -/
def bit (v m : Nat) : Bool := v &&& m != 0
/-- A chip behind a write of a byte. -/
def outC (c : Chip) (command : Bool) (v : Nat) : Chip :=
  if command then
    if bit v 16 then Chip.mk 0 0 0 c.up c.base false false 1 (!bit v 2) (bit v 1)
    else if bit v 8 then (if bit v 2 then { c with told := bit v 1 } else c)
    else if v / 32 = 1 then { c with served := c.served &&& ((c.served + 255) % 256) }
    else if v / 32 = 3 then { c with served := c.served &&& (255 - 2 ^ (v &&& 7)) }
    else c
  else if c.stage = 0 then { c with masked := v }
  else if c.stage = 1 then onC { c with base := v &&& 248 }
  else if c.stage = 3 then onC { c with ends := bit v 2 }
  else onC c

set_option maxHeartbeats 2000000 in
theorem o16_00_c (b k : Nat) (c d : Chip) (hok : c.ok) (v : Nat) (hv : v < 256) (h16 : v &&& 16 = 16) (h2 : v &&& 2 = 0) (h1 : v &&& 1 = 0) (w : World) (H : Pair w b c d) (kv : w.cell? ⟨k, 0, none⟩ = some (.int .u8 v)) (hkb : k ≠ b) :
    Calls Try.prog 23 #[.pointer (some ⟨b, 0, none⟩), .bool true, .pointer (some ⟨k, 0, none⟩)] w fun r w' => r = .returned (.tuple #[]) ∧ Pair w' b (Chip.mk 0 0 0 c.up c.base false false 1 true false) d ∧ Keeps (· = b) w w' := by
  obtain ⟨k0, k1, k2, k3, k4, k5, k6, k7, k8, k9, k10, k11, k12, k13, k14, k15, k16, k17, k18, k19, kf, klt⟩ := H.facts
  have e16 : bits .and .u8 (v : Int) 16 = 16 := by
    have h := u8_and_nat v 16 hv (by decide)
    rw [h16] at h
    exact h
  have e2 : bits .and .u8 (v : Int) 2 = 0 := by
    have h := u8_and_nat v 2 hv (by decide)
    rw [h2] at h
    exact h
  have e1 : bits .and .u8 (v : Int) 1 = 0 := by
    have h := u8_and_nat v 1 hv (by decide)
    rw [h1] at h
    exact h
  go_enter Try.func23, Try.ntmps23
  go_wp2_with fail
  go_region
  go_wp2_with fail
  go_returns
  refine ⟨rfl, ?_, by (repeat' (first | (with_reducible exact Keeps.refl _ _) | (with_reducible exact hk) | (with_reducible refine Keeps.setOne ?_ _ _) | (with_reducible refine Keeps.alloc ?_ _) | (with_reducible refine Keeps.drew ?_) | (with_reducible refine Keeps.drewN ?_ _)))⟩
  unfold Pair Chip.cells at H ⊢
  simp only [List.cons_append, List.nil_append] at H ⊢
  (first | (simp only [heap_set_map, putObj_cells, H, Option.map_some, List.set_cons_succ, List.set_cons_zero, heap_drewN, heap_drew]; done) | (simp only [heap_set_map, putObj_cells, H, Option.map_some, List.set_cons_succ, List.set_cons_zero, heap_drewN, heap_drew]; rfl))

set_option maxHeartbeats 2000000 in
theorem o16_01_c (b k : Nat) (c d : Chip) (hok : c.ok) (v : Nat) (hv : v < 256) (h16 : v &&& 16 = 16) (h2 : v &&& 2 = 0) (h1 : v &&& 1 = 1) (w : World) (H : Pair w b c d) (kv : w.cell? ⟨k, 0, none⟩ = some (.int .u8 v)) (hkb : k ≠ b) :
    Calls Try.prog 23 #[.pointer (some ⟨b, 0, none⟩), .bool true, .pointer (some ⟨k, 0, none⟩)] w fun r w' => r = .returned (.tuple #[]) ∧ Pair w' b (Chip.mk 0 0 0 c.up c.base false false 1 true true) d ∧ Keeps (· = b) w w' := by
  obtain ⟨k0, k1, k2, k3, k4, k5, k6, k7, k8, k9, k10, k11, k12, k13, k14, k15, k16, k17, k18, k19, kf, klt⟩ := H.facts
  have e16 : bits .and .u8 (v : Int) 16 = 16 := by
    have h := u8_and_nat v 16 hv (by decide)
    rw [h16] at h
    exact h
  have e2 : bits .and .u8 (v : Int) 2 = 0 := by
    have h := u8_and_nat v 2 hv (by decide)
    rw [h2] at h
    exact h
  have e1 : bits .and .u8 (v : Int) 1 = 1 := by
    have h := u8_and_nat v 1 hv (by decide)
    rw [h1] at h
    exact h
  go_enter Try.func23, Try.ntmps23
  go_wp2_with fail
  go_region
  go_wp2_with fail
  go_returns
  refine ⟨rfl, ?_, by (repeat' (first | (with_reducible exact Keeps.refl _ _) | (with_reducible exact hk) | (with_reducible refine Keeps.setOne ?_ _ _) | (with_reducible refine Keeps.alloc ?_ _) | (with_reducible refine Keeps.drew ?_) | (with_reducible refine Keeps.drewN ?_ _)))⟩
  unfold Pair Chip.cells at H ⊢
  simp only [List.cons_append, List.nil_append] at H ⊢
  (first | (simp only [heap_set_map, putObj_cells, H, Option.map_some, List.set_cons_succ, List.set_cons_zero, heap_drewN, heap_drew]; done) | (simp only [heap_set_map, putObj_cells, H, Option.map_some, List.set_cons_succ, List.set_cons_zero, heap_drewN, heap_drew]; rfl))

set_option maxHeartbeats 2000000 in
theorem o16_10_c (b k : Nat) (c d : Chip) (hok : c.ok) (v : Nat) (hv : v < 256) (h16 : v &&& 16 = 16) (h2 : v &&& 2 = 2) (h1 : v &&& 1 = 0) (w : World) (H : Pair w b c d) (kv : w.cell? ⟨k, 0, none⟩ = some (.int .u8 v)) (hkb : k ≠ b) :
    Calls Try.prog 23 #[.pointer (some ⟨b, 0, none⟩), .bool true, .pointer (some ⟨k, 0, none⟩)] w fun r w' => r = .returned (.tuple #[]) ∧ Pair w' b (Chip.mk 0 0 0 c.up c.base false false 1 false false) d ∧ Keeps (· = b) w w' := by
  obtain ⟨k0, k1, k2, k3, k4, k5, k6, k7, k8, k9, k10, k11, k12, k13, k14, k15, k16, k17, k18, k19, kf, klt⟩ := H.facts
  have e16 : bits .and .u8 (v : Int) 16 = 16 := by
    have h := u8_and_nat v 16 hv (by decide)
    rw [h16] at h
    exact h
  have e2 : bits .and .u8 (v : Int) 2 = 2 := by
    have h := u8_and_nat v 2 hv (by decide)
    rw [h2] at h
    exact h
  have e1 : bits .and .u8 (v : Int) 1 = 0 := by
    have h := u8_and_nat v 1 hv (by decide)
    rw [h1] at h
    exact h
  go_enter Try.func23, Try.ntmps23
  go_wp2_with fail
  go_region
  go_wp2_with fail
  go_returns
  refine ⟨rfl, ?_, by (repeat' (first | (with_reducible exact Keeps.refl _ _) | (with_reducible exact hk) | (with_reducible refine Keeps.setOne ?_ _ _) | (with_reducible refine Keeps.alloc ?_ _) | (with_reducible refine Keeps.drew ?_) | (with_reducible refine Keeps.drewN ?_ _)))⟩
  unfold Pair Chip.cells at H ⊢
  simp only [List.cons_append, List.nil_append] at H ⊢
  (first | (simp only [heap_set_map, putObj_cells, H, Option.map_some, List.set_cons_succ, List.set_cons_zero, heap_drewN, heap_drew]; done) | (simp only [heap_set_map, putObj_cells, H, Option.map_some, List.set_cons_succ, List.set_cons_zero, heap_drewN, heap_drew]; rfl))

set_option maxHeartbeats 2000000 in
theorem o16_11_c (b k : Nat) (c d : Chip) (hok : c.ok) (v : Nat) (hv : v < 256) (h16 : v &&& 16 = 16) (h2 : v &&& 2 = 2) (h1 : v &&& 1 = 1) (w : World) (H : Pair w b c d) (kv : w.cell? ⟨k, 0, none⟩ = some (.int .u8 v)) (hkb : k ≠ b) :
    Calls Try.prog 23 #[.pointer (some ⟨b, 0, none⟩), .bool true, .pointer (some ⟨k, 0, none⟩)] w fun r w' => r = .returned (.tuple #[]) ∧ Pair w' b (Chip.mk 0 0 0 c.up c.base false false 1 false true) d ∧ Keeps (· = b) w w' := by
  obtain ⟨k0, k1, k2, k3, k4, k5, k6, k7, k8, k9, k10, k11, k12, k13, k14, k15, k16, k17, k18, k19, kf, klt⟩ := H.facts
  have e16 : bits .and .u8 (v : Int) 16 = 16 := by
    have h := u8_and_nat v 16 hv (by decide)
    rw [h16] at h
    exact h
  have e2 : bits .and .u8 (v : Int) 2 = 2 := by
    have h := u8_and_nat v 2 hv (by decide)
    rw [h2] at h
    exact h
  have e1 : bits .and .u8 (v : Int) 1 = 1 := by
    have h := u8_and_nat v 1 hv (by decide)
    rw [h1] at h
    exact h
  go_enter Try.func23, Try.ntmps23
  go_wp2_with fail
  go_region
  go_wp2_with fail
  go_returns
  refine ⟨rfl, ?_, by (repeat' (first | (with_reducible exact Keeps.refl _ _) | (with_reducible exact hk) | (with_reducible refine Keeps.setOne ?_ _ _) | (with_reducible refine Keeps.alloc ?_ _) | (with_reducible refine Keeps.drew ?_) | (with_reducible refine Keeps.drewN ?_ _)))⟩
  unfold Pair Chip.cells at H ⊢
  simp only [List.cons_append, List.nil_append] at H ⊢
  (first | (simp only [heap_set_map, putObj_cells, H, Option.map_some, List.set_cons_succ, List.set_cons_zero, heap_drewN, heap_drew]; done) | (simp only [heap_set_map, putObj_cells, H, Option.map_some, List.set_cons_succ, List.set_cons_zero, heap_drewN, heap_drew]; rfl))

set_option maxHeartbeats 2000000 in
theorem o8_0_c (b k : Nat) (c d : Chip) (hok : c.ok) (v : Nat) (hv : v < 256) (h16 : v &&& 16 = 0) (h8 : v &&& 8 = 8) (h2 : v &&& 2 = 2) (h1 : v &&& 1 = 0) (w : World) (H : Pair w b c d) (kv : w.cell? ⟨k, 0, none⟩ = some (.int .u8 v)) (hkb : k ≠ b) :
    Calls Try.prog 23 #[.pointer (some ⟨b, 0, none⟩), .bool true, .pointer (some ⟨k, 0, none⟩)] w fun r w' => r = .returned (.tuple #[]) ∧ Pair w' b ({ c with told := false }) d ∧ Keeps (· = b) w w' := by
  obtain ⟨k0, k1, k2, k3, k4, k5, k6, k7, k8, k9, k10, k11, k12, k13, k14, k15, k16, k17, k18, k19, kf, klt⟩ := H.facts
  have e16 : bits .and .u8 (v : Int) 16 = 0 := by
    have h := u8_and_nat v 16 hv (by decide)
    rw [h16] at h
    exact h
  have e8 : bits .and .u8 (v : Int) 8 = 8 := by
    have h := u8_and_nat v 8 hv (by decide)
    rw [h8] at h
    exact h
  have e2 : bits .and .u8 (v : Int) 2 = 2 := by
    have h := u8_and_nat v 2 hv (by decide)
    rw [h2] at h
    exact h
  have e1 : bits .and .u8 (v : Int) 1 = 0 := by
    have h := u8_and_nat v 1 hv (by decide)
    rw [h1] at h
    exact h
  go_enter Try.func23, Try.ntmps23
  go_wp2_with fail
  go_returns
  refine ⟨rfl, ?_, by (repeat' (first | (with_reducible exact Keeps.refl _ _) | (with_reducible exact hk) | (with_reducible refine Keeps.setOne ?_ _ _) | (with_reducible refine Keeps.alloc ?_ _) | (with_reducible refine Keeps.drew ?_) | (with_reducible refine Keeps.drewN ?_ _)))⟩
  unfold Pair Chip.cells at H ⊢
  simp only [List.cons_append, List.nil_append] at H ⊢
  (first | (simp only [heap_set_map, putObj_cells, H, Option.map_some, List.set_cons_succ, List.set_cons_zero, heap_drewN, heap_drew]; done) | (simp only [heap_set_map, putObj_cells, H, Option.map_some, List.set_cons_succ, List.set_cons_zero, heap_drewN, heap_drew]; rfl))

set_option maxHeartbeats 2000000 in
theorem o8_1_c (b k : Nat) (c d : Chip) (hok : c.ok) (v : Nat) (hv : v < 256) (h16 : v &&& 16 = 0) (h8 : v &&& 8 = 8) (h2 : v &&& 2 = 2) (h1 : v &&& 1 = 1) (w : World) (H : Pair w b c d) (kv : w.cell? ⟨k, 0, none⟩ = some (.int .u8 v)) (hkb : k ≠ b) :
    Calls Try.prog 23 #[.pointer (some ⟨b, 0, none⟩), .bool true, .pointer (some ⟨k, 0, none⟩)] w fun r w' => r = .returned (.tuple #[]) ∧ Pair w' b ({ c with told := true }) d ∧ Keeps (· = b) w w' := by
  obtain ⟨k0, k1, k2, k3, k4, k5, k6, k7, k8, k9, k10, k11, k12, k13, k14, k15, k16, k17, k18, k19, kf, klt⟩ := H.facts
  have e16 : bits .and .u8 (v : Int) 16 = 0 := by
    have h := u8_and_nat v 16 hv (by decide)
    rw [h16] at h
    exact h
  have e8 : bits .and .u8 (v : Int) 8 = 8 := by
    have h := u8_and_nat v 8 hv (by decide)
    rw [h8] at h
    exact h
  have e2 : bits .and .u8 (v : Int) 2 = 2 := by
    have h := u8_and_nat v 2 hv (by decide)
    rw [h2] at h
    exact h
  have e1 : bits .and .u8 (v : Int) 1 = 1 := by
    have h := u8_and_nat v 1 hv (by decide)
    rw [h1] at h
    exact h
  go_enter Try.func23, Try.ntmps23
  go_wp2_with fail
  go_returns
  refine ⟨rfl, ?_, by (repeat' (first | (with_reducible exact Keeps.refl _ _) | (with_reducible exact hk) | (with_reducible refine Keeps.setOne ?_ _ _) | (with_reducible refine Keeps.alloc ?_ _) | (with_reducible refine Keeps.drew ?_) | (with_reducible refine Keeps.drewN ?_ _)))⟩
  unfold Pair Chip.cells at H ⊢
  simp only [List.cons_append, List.nil_append] at H ⊢
  (first | (simp only [heap_set_map, putObj_cells, H, Option.map_some, List.set_cons_succ, List.set_cons_zero, heap_drewN, heap_drew]; done) | (simp only [heap_set_map, putObj_cells, H, Option.map_some, List.set_cons_succ, List.set_cons_zero, heap_drewN, heap_drew]; rfl))

set_option maxHeartbeats 2000000 in
theorem o8_n_c (b k : Nat) (c d : Chip) (hok : c.ok) (v : Nat) (hv : v < 256) (h16 : v &&& 16 = 0) (h8 : v &&& 8 = 8) (h2 : v &&& 2 = 0) (w : World) (H : Pair w b c d) (kv : w.cell? ⟨k, 0, none⟩ = some (.int .u8 v)) (hkb : k ≠ b) :
    Calls Try.prog 23 #[.pointer (some ⟨b, 0, none⟩), .bool true, .pointer (some ⟨k, 0, none⟩)] w fun r w' => r = .returned (.tuple #[]) ∧ Pair w' b (c) d ∧ Keeps (· = b) w w' := by
  obtain ⟨k0, k1, k2, k3, k4, k5, k6, k7, k8, k9, k10, k11, k12, k13, k14, k15, k16, k17, k18, k19, kf, klt⟩ := H.facts
  have e16 : bits .and .u8 (v : Int) 16 = 0 := by
    have h := u8_and_nat v 16 hv (by decide)
    rw [h16] at h
    exact h
  have e8 : bits .and .u8 (v : Int) 8 = 8 := by
    have h := u8_and_nat v 8 hv (by decide)
    rw [h8] at h
    exact h
  have e2 : bits .and .u8 (v : Int) 2 = 0 := by
    have h := u8_and_nat v 2 hv (by decide)
    rw [h2] at h
    exact h
  go_enter Try.func23, Try.ntmps23
  go_wp2_with fail
  go_returns
  exact ⟨rfl, H, Keeps.refl _ _⟩

set_option maxHeartbeats 2000000 in
theorem o1_c (b k : Nat) (c d : Chip) (hok : c.ok) (v : Nat) (hv : v < 256) (h16 : v &&& 16 = 0) (h8 : v &&& 8 = 0) (h5 : v / 32 = 1) (hz : 0 < c.served) (w : World) (H : Pair w b c d) (kv : w.cell? ⟨k, 0, none⟩ = some (.int .u8 v)) (hkb : k ≠ b) :
    Calls Try.prog 23 #[.pointer (some ⟨b, 0, none⟩), .bool true, .pointer (some ⟨k, 0, none⟩)] w fun r w' => r = .returned (.tuple #[]) ∧ Pair w' b ({ c with served := c.served &&& ((c.served + 255) % 256) }) d ∧ Keeps (· = b) w w' := by
  obtain ⟨k0, k1, k2, k3, k4, k5, k6, k7, k8, k9, k10, k11, k12, k13, k14, k15, k16, k17, k18, k19, kf, klt⟩ := H.facts
  have e16 : bits .and .u8 (v : Int) 16 = 0 := by
    have h := u8_and_nat v 16 hv (by decide)
    rw [h16] at h
    exact h
  have e8 : bits .and .u8 (v : Int) 8 = 0 := by
    have h := u8_and_nat v 8 hv (by decide)
    rw [h8] at h
    exact h
  have hs := hok.served
  have es : bits .and .u8 (c.served : Int) ((c.served : Int) - 1) = ((c.served &&& ((c.served + 255) % 256) : Nat) : Int) := by
    have h := u8_and_nat c.served ((c.served + 255) % 256) hs (Nat.mod_lt _ (by decide))
    rw [← h]
    congr 1
    omega
  go_enter Try.func23, Try.ntmps23
  go_wp2_with fail
  go_region
  go_wp2_with fail
  go_returns
  refine ⟨rfl, ?_, by (repeat' (first | (with_reducible exact Keeps.refl _ _) | (with_reducible exact hk) | (with_reducible refine Keeps.setOne ?_ _ _) | (with_reducible refine Keeps.alloc ?_ _) | (with_reducible refine Keeps.drew ?_) | (with_reducible refine Keeps.drewN ?_ _)))⟩
  unfold Pair Chip.cells at H ⊢
  simp only [List.cons_append, List.nil_append] at H ⊢
  (first | (simp only [heap_set_map, putObj_cells, H, Option.map_some, List.set_cons_succ, List.set_cons_zero, heap_drewN, heap_drew]; done) | (simp only [heap_set_map, putObj_cells, H, Option.map_some, List.set_cons_succ, List.set_cons_zero, heap_drewN, heap_drew]; rfl))

set_option maxHeartbeats 2000000 in
theorem o1z_c (b k : Nat) (c d : Chip) (hok : c.ok) (v : Nat) (hv : v < 256) (h16 : v &&& 16 = 0) (h8 : v &&& 8 = 0) (h5 : v / 32 = 1) (hz : c.served = 0) (w : World) (H : Pair w b c d) (kv : w.cell? ⟨k, 0, none⟩ = some (.int .u8 v)) (hkb : k ≠ b) :
    Calls Try.prog 23 #[.pointer (some ⟨b, 0, none⟩), .bool true, .pointer (some ⟨k, 0, none⟩)] w fun r w' => r = .returned (.tuple #[]) ∧ Pair w' b ({ c with served := 0 }) d ∧ Keeps (· = b) w w' := by
  obtain ⟨k0, k1, k2, k3, k4, k5, k6, k7, k8, k9, k10, k11, k12, k13, k14, k15, k16, k17, k18, k19, kf, klt⟩ := H.facts
  have e16 : bits .and .u8 (v : Int) 16 = 0 := by
    have h := u8_and_nat v 16 hv (by decide)
    rw [h16] at h
    exact h
  have e8 : bits .and .u8 (v : Int) 8 = 0 := by
    have h := u8_and_nat v 8 hv (by decide)
    rw [h8] at h
    exact h
  have hs := hok.served
  have es : bits .and .u8 0 255 = 0 := by decide
  rw [hz] at k1
  go_enter Try.func23, Try.ntmps23
  go_wp2_with fail
  go_region
  go_wp2_with fail
  go_returns
  refine ⟨rfl, ?_, by (repeat' (first | (with_reducible exact Keeps.refl _ _) | (with_reducible exact hk) | (with_reducible refine Keeps.setOne ?_ _ _) | (with_reducible refine Keeps.alloc ?_ _) | (with_reducible refine Keeps.drew ?_) | (with_reducible refine Keeps.drewN ?_ _)))⟩
  unfold Pair Chip.cells at H ⊢
  simp only [List.cons_append, List.nil_append] at H ⊢
  (first | (simp only [heap_set_map, putObj_cells, H, Option.map_some, List.set_cons_succ, List.set_cons_zero, heap_drewN, heap_drew]; done) | (simp only [heap_set_map, putObj_cells, H, Option.map_some, List.set_cons_succ, List.set_cons_zero, heap_drewN, heap_drew]; rfl))

set_option maxHeartbeats 2000000 in
theorem o3_0_c (b k : Nat) (c d : Chip) (hok : c.ok) (v : Nat) (hv : v < 256) (h16 : v &&& 16 = 0) (h8 : v &&& 8 = 0) (h5 : v / 32 = 3) (h7 : v &&& 7 = 0) (w : World) (H : Pair w b c d) (kv : w.cell? ⟨k, 0, none⟩ = some (.int .u8 v)) (hkb : k ≠ b) :
    Calls Try.prog 23 #[.pointer (some ⟨b, 0, none⟩), .bool true, .pointer (some ⟨k, 0, none⟩)] w fun r w' => r = .returned (.tuple #[]) ∧ Pair w' b ({ c with served := c.served &&& 254 }) d ∧ Keeps (· = b) w w' := by
  obtain ⟨k0, k1, k2, k3, k4, k5, k6, k7, k8, k9, k10, k11, k12, k13, k14, k15, k16, k17, k18, k19, kf, klt⟩ := H.facts
  have e16 : bits .and .u8 (v : Int) 16 = 0 := by
    have h := u8_and_nat v 16 hv (by decide)
    rw [h16] at h
    exact h
  have e8 : bits .and .u8 (v : Int) 8 = 0 := by
    have h := u8_and_nat v 8 hv (by decide)
    rw [h8] at h
    exact h
  have e7 : bits .and .u8 (v : Int) 7 = 0 := by
    have h := u8_and_nat v 7 hv (by decide)
    rw [h7] at h
    exact h
  have es : bits .andNot .u8 (c.served : Int) 1 = ((c.served &&& 254 : Nat) : Int) := u8_andNot_nat c.served 1 hok.served (by decide)
  go_enter Try.func23, Try.ntmps23
  go_wp2_with fail
  go_region
  go_wp2_with fail
  go_returns
  refine ⟨rfl, ?_, by (repeat' (first | (with_reducible exact Keeps.refl _ _) | (with_reducible exact hk) | (with_reducible refine Keeps.setOne ?_ _ _) | (with_reducible refine Keeps.alloc ?_ _) | (with_reducible refine Keeps.drew ?_) | (with_reducible refine Keeps.drewN ?_ _)))⟩
  unfold Pair Chip.cells at H ⊢
  simp only [List.cons_append, List.nil_append] at H ⊢
  (first | (simp only [heap_set_map, putObj_cells, H, Option.map_some, List.set_cons_succ, List.set_cons_zero, heap_drewN, heap_drew]; done) | (simp only [heap_set_map, putObj_cells, H, Option.map_some, List.set_cons_succ, List.set_cons_zero, heap_drewN, heap_drew]; rfl))

set_option maxHeartbeats 2000000 in
theorem o3_1_c (b k : Nat) (c d : Chip) (hok : c.ok) (v : Nat) (hv : v < 256) (h16 : v &&& 16 = 0) (h8 : v &&& 8 = 0) (h5 : v / 32 = 3) (h7 : v &&& 7 = 1) (w : World) (H : Pair w b c d) (kv : w.cell? ⟨k, 0, none⟩ = some (.int .u8 v)) (hkb : k ≠ b) :
    Calls Try.prog 23 #[.pointer (some ⟨b, 0, none⟩), .bool true, .pointer (some ⟨k, 0, none⟩)] w fun r w' => r = .returned (.tuple #[]) ∧ Pair w' b ({ c with served := c.served &&& 253 }) d ∧ Keeps (· = b) w w' := by
  obtain ⟨k0, k1, k2, k3, k4, k5, k6, k7, k8, k9, k10, k11, k12, k13, k14, k15, k16, k17, k18, k19, kf, klt⟩ := H.facts
  have e16 : bits .and .u8 (v : Int) 16 = 0 := by
    have h := u8_and_nat v 16 hv (by decide)
    rw [h16] at h
    exact h
  have e8 : bits .and .u8 (v : Int) 8 = 0 := by
    have h := u8_and_nat v 8 hv (by decide)
    rw [h8] at h
    exact h
  have e7 : bits .and .u8 (v : Int) 7 = 1 := by
    have h := u8_and_nat v 7 hv (by decide)
    rw [h7] at h
    exact h
  have es : bits .andNot .u8 (c.served : Int) 2 = ((c.served &&& 253 : Nat) : Int) := u8_andNot_nat c.served 2 hok.served (by decide)
  go_enter Try.func23, Try.ntmps23
  go_wp2_with fail
  go_region
  go_wp2_with fail
  go_returns
  refine ⟨rfl, ?_, by (repeat' (first | (with_reducible exact Keeps.refl _ _) | (with_reducible exact hk) | (with_reducible refine Keeps.setOne ?_ _ _) | (with_reducible refine Keeps.alloc ?_ _) | (with_reducible refine Keeps.drew ?_) | (with_reducible refine Keeps.drewN ?_ _)))⟩
  unfold Pair Chip.cells at H ⊢
  simp only [List.cons_append, List.nil_append] at H ⊢
  (first | (simp only [heap_set_map, putObj_cells, H, Option.map_some, List.set_cons_succ, List.set_cons_zero, heap_drewN, heap_drew]; done) | (simp only [heap_set_map, putObj_cells, H, Option.map_some, List.set_cons_succ, List.set_cons_zero, heap_drewN, heap_drew]; rfl))

set_option maxHeartbeats 2000000 in
theorem o3_2_c (b k : Nat) (c d : Chip) (hok : c.ok) (v : Nat) (hv : v < 256) (h16 : v &&& 16 = 0) (h8 : v &&& 8 = 0) (h5 : v / 32 = 3) (h7 : v &&& 7 = 2) (w : World) (H : Pair w b c d) (kv : w.cell? ⟨k, 0, none⟩ = some (.int .u8 v)) (hkb : k ≠ b) :
    Calls Try.prog 23 #[.pointer (some ⟨b, 0, none⟩), .bool true, .pointer (some ⟨k, 0, none⟩)] w fun r w' => r = .returned (.tuple #[]) ∧ Pair w' b ({ c with served := c.served &&& 251 }) d ∧ Keeps (· = b) w w' := by
  obtain ⟨k0, k1, k2, k3, k4, k5, k6, k7, k8, k9, k10, k11, k12, k13, k14, k15, k16, k17, k18, k19, kf, klt⟩ := H.facts
  have e16 : bits .and .u8 (v : Int) 16 = 0 := by
    have h := u8_and_nat v 16 hv (by decide)
    rw [h16] at h
    exact h
  have e8 : bits .and .u8 (v : Int) 8 = 0 := by
    have h := u8_and_nat v 8 hv (by decide)
    rw [h8] at h
    exact h
  have e7 : bits .and .u8 (v : Int) 7 = 2 := by
    have h := u8_and_nat v 7 hv (by decide)
    rw [h7] at h
    exact h
  have es : bits .andNot .u8 (c.served : Int) 4 = ((c.served &&& 251 : Nat) : Int) := u8_andNot_nat c.served 4 hok.served (by decide)
  go_enter Try.func23, Try.ntmps23
  go_wp2_with fail
  go_region
  go_wp2_with fail
  go_returns
  refine ⟨rfl, ?_, by (repeat' (first | (with_reducible exact Keeps.refl _ _) | (with_reducible exact hk) | (with_reducible refine Keeps.setOne ?_ _ _) | (with_reducible refine Keeps.alloc ?_ _) | (with_reducible refine Keeps.drew ?_) | (with_reducible refine Keeps.drewN ?_ _)))⟩
  unfold Pair Chip.cells at H ⊢
  simp only [List.cons_append, List.nil_append] at H ⊢
  (first | (simp only [heap_set_map, putObj_cells, H, Option.map_some, List.set_cons_succ, List.set_cons_zero, heap_drewN, heap_drew]; done) | (simp only [heap_set_map, putObj_cells, H, Option.map_some, List.set_cons_succ, List.set_cons_zero, heap_drewN, heap_drew]; rfl))

set_option maxHeartbeats 2000000 in
theorem o3_3_c (b k : Nat) (c d : Chip) (hok : c.ok) (v : Nat) (hv : v < 256) (h16 : v &&& 16 = 0) (h8 : v &&& 8 = 0) (h5 : v / 32 = 3) (h7 : v &&& 7 = 3) (w : World) (H : Pair w b c d) (kv : w.cell? ⟨k, 0, none⟩ = some (.int .u8 v)) (hkb : k ≠ b) :
    Calls Try.prog 23 #[.pointer (some ⟨b, 0, none⟩), .bool true, .pointer (some ⟨k, 0, none⟩)] w fun r w' => r = .returned (.tuple #[]) ∧ Pair w' b ({ c with served := c.served &&& 247 }) d ∧ Keeps (· = b) w w' := by
  obtain ⟨k0, k1, k2, k3, k4, k5, k6, k7, k8, k9, k10, k11, k12, k13, k14, k15, k16, k17, k18, k19, kf, klt⟩ := H.facts
  have e16 : bits .and .u8 (v : Int) 16 = 0 := by
    have h := u8_and_nat v 16 hv (by decide)
    rw [h16] at h
    exact h
  have e8 : bits .and .u8 (v : Int) 8 = 0 := by
    have h := u8_and_nat v 8 hv (by decide)
    rw [h8] at h
    exact h
  have e7 : bits .and .u8 (v : Int) 7 = 3 := by
    have h := u8_and_nat v 7 hv (by decide)
    rw [h7] at h
    exact h
  have es : bits .andNot .u8 (c.served : Int) 8 = ((c.served &&& 247 : Nat) : Int) := u8_andNot_nat c.served 8 hok.served (by decide)
  go_enter Try.func23, Try.ntmps23
  go_wp2_with fail
  go_region
  go_wp2_with fail
  go_returns
  refine ⟨rfl, ?_, by (repeat' (first | (with_reducible exact Keeps.refl _ _) | (with_reducible exact hk) | (with_reducible refine Keeps.setOne ?_ _ _) | (with_reducible refine Keeps.alloc ?_ _) | (with_reducible refine Keeps.drew ?_) | (with_reducible refine Keeps.drewN ?_ _)))⟩
  unfold Pair Chip.cells at H ⊢
  simp only [List.cons_append, List.nil_append] at H ⊢
  (first | (simp only [heap_set_map, putObj_cells, H, Option.map_some, List.set_cons_succ, List.set_cons_zero, heap_drewN, heap_drew]; done) | (simp only [heap_set_map, putObj_cells, H, Option.map_some, List.set_cons_succ, List.set_cons_zero, heap_drewN, heap_drew]; rfl))

set_option maxHeartbeats 2000000 in
theorem o3_4_c (b k : Nat) (c d : Chip) (hok : c.ok) (v : Nat) (hv : v < 256) (h16 : v &&& 16 = 0) (h8 : v &&& 8 = 0) (h5 : v / 32 = 3) (h7 : v &&& 7 = 4) (w : World) (H : Pair w b c d) (kv : w.cell? ⟨k, 0, none⟩ = some (.int .u8 v)) (hkb : k ≠ b) :
    Calls Try.prog 23 #[.pointer (some ⟨b, 0, none⟩), .bool true, .pointer (some ⟨k, 0, none⟩)] w fun r w' => r = .returned (.tuple #[]) ∧ Pair w' b ({ c with served := c.served &&& 239 }) d ∧ Keeps (· = b) w w' := by
  obtain ⟨k0, k1, k2, k3, k4, k5, k6, k7, k8, k9, k10, k11, k12, k13, k14, k15, k16, k17, k18, k19, kf, klt⟩ := H.facts
  have e16 : bits .and .u8 (v : Int) 16 = 0 := by
    have h := u8_and_nat v 16 hv (by decide)
    rw [h16] at h
    exact h
  have e8 : bits .and .u8 (v : Int) 8 = 0 := by
    have h := u8_and_nat v 8 hv (by decide)
    rw [h8] at h
    exact h
  have e7 : bits .and .u8 (v : Int) 7 = 4 := by
    have h := u8_and_nat v 7 hv (by decide)
    rw [h7] at h
    exact h
  have es : bits .andNot .u8 (c.served : Int) 16 = ((c.served &&& 239 : Nat) : Int) := u8_andNot_nat c.served 16 hok.served (by decide)
  go_enter Try.func23, Try.ntmps23
  go_wp2_with fail
  go_region
  go_wp2_with fail
  go_returns
  refine ⟨rfl, ?_, by (repeat' (first | (with_reducible exact Keeps.refl _ _) | (with_reducible exact hk) | (with_reducible refine Keeps.setOne ?_ _ _) | (with_reducible refine Keeps.alloc ?_ _) | (with_reducible refine Keeps.drew ?_) | (with_reducible refine Keeps.drewN ?_ _)))⟩
  unfold Pair Chip.cells at H ⊢
  simp only [List.cons_append, List.nil_append] at H ⊢
  (first | (simp only [heap_set_map, putObj_cells, H, Option.map_some, List.set_cons_succ, List.set_cons_zero, heap_drewN, heap_drew]; done) | (simp only [heap_set_map, putObj_cells, H, Option.map_some, List.set_cons_succ, List.set_cons_zero, heap_drewN, heap_drew]; rfl))

set_option maxHeartbeats 2000000 in
theorem o3_5_c (b k : Nat) (c d : Chip) (hok : c.ok) (v : Nat) (hv : v < 256) (h16 : v &&& 16 = 0) (h8 : v &&& 8 = 0) (h5 : v / 32 = 3) (h7 : v &&& 7 = 5) (w : World) (H : Pair w b c d) (kv : w.cell? ⟨k, 0, none⟩ = some (.int .u8 v)) (hkb : k ≠ b) :
    Calls Try.prog 23 #[.pointer (some ⟨b, 0, none⟩), .bool true, .pointer (some ⟨k, 0, none⟩)] w fun r w' => r = .returned (.tuple #[]) ∧ Pair w' b ({ c with served := c.served &&& 223 }) d ∧ Keeps (· = b) w w' := by
  obtain ⟨k0, k1, k2, k3, k4, k5, k6, k7, k8, k9, k10, k11, k12, k13, k14, k15, k16, k17, k18, k19, kf, klt⟩ := H.facts
  have e16 : bits .and .u8 (v : Int) 16 = 0 := by
    have h := u8_and_nat v 16 hv (by decide)
    rw [h16] at h
    exact h
  have e8 : bits .and .u8 (v : Int) 8 = 0 := by
    have h := u8_and_nat v 8 hv (by decide)
    rw [h8] at h
    exact h
  have e7 : bits .and .u8 (v : Int) 7 = 5 := by
    have h := u8_and_nat v 7 hv (by decide)
    rw [h7] at h
    exact h
  have es : bits .andNot .u8 (c.served : Int) 32 = ((c.served &&& 223 : Nat) : Int) := u8_andNot_nat c.served 32 hok.served (by decide)
  go_enter Try.func23, Try.ntmps23
  go_wp2_with fail
  go_region
  go_wp2_with fail
  go_returns
  refine ⟨rfl, ?_, by (repeat' (first | (with_reducible exact Keeps.refl _ _) | (with_reducible exact hk) | (with_reducible refine Keeps.setOne ?_ _ _) | (with_reducible refine Keeps.alloc ?_ _) | (with_reducible refine Keeps.drew ?_) | (with_reducible refine Keeps.drewN ?_ _)))⟩
  unfold Pair Chip.cells at H ⊢
  simp only [List.cons_append, List.nil_append] at H ⊢
  (first | (simp only [heap_set_map, putObj_cells, H, Option.map_some, List.set_cons_succ, List.set_cons_zero, heap_drewN, heap_drew]; done) | (simp only [heap_set_map, putObj_cells, H, Option.map_some, List.set_cons_succ, List.set_cons_zero, heap_drewN, heap_drew]; rfl))

set_option maxHeartbeats 2000000 in
theorem o3_6_c (b k : Nat) (c d : Chip) (hok : c.ok) (v : Nat) (hv : v < 256) (h16 : v &&& 16 = 0) (h8 : v &&& 8 = 0) (h5 : v / 32 = 3) (h7 : v &&& 7 = 6) (w : World) (H : Pair w b c d) (kv : w.cell? ⟨k, 0, none⟩ = some (.int .u8 v)) (hkb : k ≠ b) :
    Calls Try.prog 23 #[.pointer (some ⟨b, 0, none⟩), .bool true, .pointer (some ⟨k, 0, none⟩)] w fun r w' => r = .returned (.tuple #[]) ∧ Pair w' b ({ c with served := c.served &&& 191 }) d ∧ Keeps (· = b) w w' := by
  obtain ⟨k0, k1, k2, k3, k4, k5, k6, k7, k8, k9, k10, k11, k12, k13, k14, k15, k16, k17, k18, k19, kf, klt⟩ := H.facts
  have e16 : bits .and .u8 (v : Int) 16 = 0 := by
    have h := u8_and_nat v 16 hv (by decide)
    rw [h16] at h
    exact h
  have e8 : bits .and .u8 (v : Int) 8 = 0 := by
    have h := u8_and_nat v 8 hv (by decide)
    rw [h8] at h
    exact h
  have e7 : bits .and .u8 (v : Int) 7 = 6 := by
    have h := u8_and_nat v 7 hv (by decide)
    rw [h7] at h
    exact h
  have es : bits .andNot .u8 (c.served : Int) 64 = ((c.served &&& 191 : Nat) : Int) := u8_andNot_nat c.served 64 hok.served (by decide)
  go_enter Try.func23, Try.ntmps23
  go_wp2_with fail
  go_region
  go_wp2_with fail
  go_returns
  refine ⟨rfl, ?_, by (repeat' (first | (with_reducible exact Keeps.refl _ _) | (with_reducible exact hk) | (with_reducible refine Keeps.setOne ?_ _ _) | (with_reducible refine Keeps.alloc ?_ _) | (with_reducible refine Keeps.drew ?_) | (with_reducible refine Keeps.drewN ?_ _)))⟩
  unfold Pair Chip.cells at H ⊢
  simp only [List.cons_append, List.nil_append] at H ⊢
  (first | (simp only [heap_set_map, putObj_cells, H, Option.map_some, List.set_cons_succ, List.set_cons_zero, heap_drewN, heap_drew]; done) | (simp only [heap_set_map, putObj_cells, H, Option.map_some, List.set_cons_succ, List.set_cons_zero, heap_drewN, heap_drew]; rfl))

set_option maxHeartbeats 2000000 in
theorem o3_7_c (b k : Nat) (c d : Chip) (hok : c.ok) (v : Nat) (hv : v < 256) (h16 : v &&& 16 = 0) (h8 : v &&& 8 = 0) (h5 : v / 32 = 3) (h7 : v &&& 7 = 7) (w : World) (H : Pair w b c d) (kv : w.cell? ⟨k, 0, none⟩ = some (.int .u8 v)) (hkb : k ≠ b) :
    Calls Try.prog 23 #[.pointer (some ⟨b, 0, none⟩), .bool true, .pointer (some ⟨k, 0, none⟩)] w fun r w' => r = .returned (.tuple #[]) ∧ Pair w' b ({ c with served := c.served &&& 127 }) d ∧ Keeps (· = b) w w' := by
  obtain ⟨k0, k1, k2, k3, k4, k5, k6, k7, k8, k9, k10, k11, k12, k13, k14, k15, k16, k17, k18, k19, kf, klt⟩ := H.facts
  have e16 : bits .and .u8 (v : Int) 16 = 0 := by
    have h := u8_and_nat v 16 hv (by decide)
    rw [h16] at h
    exact h
  have e8 : bits .and .u8 (v : Int) 8 = 0 := by
    have h := u8_and_nat v 8 hv (by decide)
    rw [h8] at h
    exact h
  have e7 : bits .and .u8 (v : Int) 7 = 7 := by
    have h := u8_and_nat v 7 hv (by decide)
    rw [h7] at h
    exact h
  have es : bits .andNot .u8 (c.served : Int) 128 = ((c.served &&& 127 : Nat) : Int) := u8_andNot_nat c.served 128 hok.served (by decide)
  go_enter Try.func23, Try.ntmps23
  go_wp2_with fail
  go_region
  go_wp2_with fail
  go_returns
  refine ⟨rfl, ?_, by (repeat' (first | (with_reducible exact Keeps.refl _ _) | (with_reducible exact hk) | (with_reducible refine Keeps.setOne ?_ _ _) | (with_reducible refine Keeps.alloc ?_ _) | (with_reducible refine Keeps.drew ?_) | (with_reducible refine Keeps.drewN ?_ _)))⟩
  unfold Pair Chip.cells at H ⊢
  simp only [List.cons_append, List.nil_append] at H ⊢
  (first | (simp only [heap_set_map, putObj_cells, H, Option.map_some, List.set_cons_succ, List.set_cons_zero, heap_drewN, heap_drew]; done) | (simp only [heap_set_map, putObj_cells, H, Option.map_some, List.set_cons_succ, List.set_cons_zero, heap_drewN, heap_drew]; rfl))

set_option maxHeartbeats 2000000 in
theorem on_c (b k : Nat) (c d : Chip) (hok : c.ok) (v : Nat) (hv : v < 256) (h16 : v &&& 16 = 0) (h8 : v &&& 8 = 0) (h5 : v / 32 ≠ 1) (h6 : v / 32 ≠ 3) (w : World) (H : Pair w b c d) (kv : w.cell? ⟨k, 0, none⟩ = some (.int .u8 v)) (hkb : k ≠ b) :
    Calls Try.prog 23 #[.pointer (some ⟨b, 0, none⟩), .bool true, .pointer (some ⟨k, 0, none⟩)] w fun r w' => r = .returned (.tuple #[]) ∧ Pair w' b (c) d ∧ Keeps (· = b) w w' := by
  obtain ⟨k0, k1, k2, k3, k4, k5, k6, k7, k8, k9, k10, k11, k12, k13, k14, k15, k16, k17, k18, k19, kf, klt⟩ := H.facts
  have e16 : bits .and .u8 (v : Int) 16 = 0 := by
    have h := u8_and_nat v 16 hv (by decide)
    rw [h16] at h
    exact h
  have e8 : bits .and .u8 (v : Int) 8 = 0 := by
    have h := u8_and_nat v 8 hv (by decide)
    rw [h8] at h
    exact h
  go_enter Try.func23, Try.ntmps23
  go_wp2_with fail
  go_returns
  exact ⟨rfl, H, Keeps.refl _ _⟩

set_option maxHeartbeats 2000000 in
theorem d0_c (b k : Nat) (c d : Chip) (hok : c.ok) (v : Nat) (hv : v < 256) (h0 : c.stage = 0) (w : World) (H : Pair w b c d) (kv : w.cell? ⟨k, 0, none⟩ = some (.int .u8 v)) (hkb : k ≠ b) :
    Calls Try.prog 23 #[.pointer (some ⟨b, 0, none⟩), .bool false, .pointer (some ⟨k, 0, none⟩)] w fun r w' => r = .returned (.tuple #[]) ∧ Pair w' b ({ c with masked := v }) d ∧ Keeps (· = b) w w' := by
  obtain ⟨k0, k1, k2, k3, k4, k5, k6, k7, k8, k9, k10, k11, k12, k13, k14, k15, k16, k17, k18, k19, kf, klt⟩ := H.facts
  rw [h0] at k7
  replace k7 : w.cell? ⟨b, 7, none⟩ = some (.int .i64 0) := k7
  go_enter Try.func23, Try.ntmps23
  go_wp2_with fail
  go_returns
  refine ⟨rfl, ?_, by (repeat' (first | (with_reducible exact Keeps.refl _ _) | (with_reducible exact hk) | (with_reducible refine Keeps.setOne ?_ _ _) | (with_reducible refine Keeps.alloc ?_ _) | (with_reducible refine Keeps.drew ?_) | (with_reducible refine Keeps.drewN ?_ _)))⟩
  unfold Pair Chip.cells at H ⊢
  simp only [List.cons_append, List.nil_append] at H ⊢
  (first | (simp only [heap_set_map, putObj_cells, H, Option.map_some, List.set_cons_succ, List.set_cons_zero, heap_drewN, heap_drew]; done) | (simp only [heap_set_map, putObj_cells, H, Option.map_some, List.set_cons_succ, List.set_cons_zero, heap_drewN, heap_drew]; rfl))

set_option maxHeartbeats 2000000 in
theorem d1_c (b k : Nat) (c d : Chip) (hok : c.ok) (v : Nat) (hv : v < 256) (h0 : c.stage = 1)  (w : World) (H : Pair w b c d) (kv : w.cell? ⟨k, 0, none⟩ = some (.int .u8 v)) (hkb : k ≠ b) :
    Calls Try.prog 23 #[.pointer (some ⟨b, 0, none⟩), .bool false, .pointer (some ⟨k, 0, none⟩)] w fun r w' => r = .returned (.tuple #[]) ∧ Pair w' b (onC ({ c with base := v &&& 248 })) d ∧ Keeps (· = b) w w' := by
  obtain ⟨k0, k1, k2, k3, k4, k5, k6, k7, k8, k9, k10, k11, k12, k13, k14, k15, k16, k17, k18, k19, kf, klt⟩ := H.facts
  have hst : c.stage = 1 := h0
  rw [h0] at k7
  replace k7 : w.cell? ⟨b, 7, none⟩ = some (.int .i64 1) := k7
  have ea : bits .andNot .u8 (v : Int) 7 = ((v &&& 248 : Nat) : Int) := u8_andNot_nat v 7 hv (by decide)
  go_enter Try.func23, Try.ntmps23
  go_wp2_with fail
  have H1 : ∀ X, X = w.setCell ⟨b, 4, none⟩ (.int .u8 (v &&& 248 : Nat)) → Pair X b ({ c with base := v &&& 248 }) d := by
    rintro X rfl
    unfold Pair Chip.cells at H ⊢
    simp only [List.cons_append, List.nil_append] at H ⊢
    (first | (simp only [heap_set_map, putObj_cells, H, Option.map_some, List.set_cons_succ, List.set_cons_zero, heap_drewN, heap_drew]; done) | (simp only [heap_set_map, putObj_cells, H, Option.map_some, List.set_cons_succ, List.set_cons_zero, heap_drewN, heap_drew]; rfl))
  refine (onward_c b ({ c with base := v &&& 248 }) d (by show c.stage ≠ 0; rw [hst]; decide) (by show c.stage < 4; rw [hst]; decide) _ (H1 _ rfl)).mono ?_
  rintro r w1 ⟨rfl, H2, hk⟩
  go_wp2_with fail
  go_returns
  exact ⟨rfl, H2, Keeps.trans ((Keeps.refl _ _).setOne _ _) hk⟩

set_option maxHeartbeats 2000000 in
theorem d2_c (b k : Nat) (c d : Chip) (hok : c.ok) (v : Nat) (hv : v < 256) (h0 : c.stage = 2)  (w : World) (H : Pair w b c d) (kv : w.cell? ⟨k, 0, none⟩ = some (.int .u8 v)) (hkb : k ≠ b) :
    Calls Try.prog 23 #[.pointer (some ⟨b, 0, none⟩), .bool false, .pointer (some ⟨k, 0, none⟩)] w fun r w' => r = .returned (.tuple #[]) ∧ Pair w' b (onC (c)) d ∧ Keeps (· = b) w w' := by
  obtain ⟨k0, k1, k2, k3, k4, k5, k6, k7, k8, k9, k10, k11, k12, k13, k14, k15, k16, k17, k18, k19, kf, klt⟩ := H.facts
  have hst : c.stage = 2 := h0
  rw [h0] at k7
  replace k7 : w.cell? ⟨b, 7, none⟩ = some (.int .i64 2) := k7
  go_enter Try.func23, Try.ntmps23
  go_wp2_with fail
  refine (onward_c b (c) d (by show c.stage ≠ 0; rw [hst]; decide) (by show c.stage < 4; rw [hst]; decide) w H).mono ?_
  rintro r w1 ⟨rfl, H2, hk⟩
  go_wp2_with fail
  go_returns
  exact ⟨rfl, H2, hk⟩

set_option maxHeartbeats 2000000 in
theorem d3_0_c (b k : Nat) (c d : Chip) (hok : c.ok) (v : Nat) (hv : v < 256) (h0 : c.stage = 3) (h2 : v &&& 2 = 0) (w : World) (H : Pair w b c d) (kv : w.cell? ⟨k, 0, none⟩ = some (.int .u8 v)) (hkb : k ≠ b) :
    Calls Try.prog 23 #[.pointer (some ⟨b, 0, none⟩), .bool false, .pointer (some ⟨k, 0, none⟩)] w fun r w' => r = .returned (.tuple #[]) ∧ Pair w' b (onC ({ c with ends := false })) d ∧ Keeps (· = b) w w' := by
  obtain ⟨k0, k1, k2, k3, k4, k5, k6, k7, k8, k9, k10, k11, k12, k13, k14, k15, k16, k17, k18, k19, kf, klt⟩ := H.facts
  have hst : c.stage = 3 := h0
  rw [h0] at k7
  replace k7 : w.cell? ⟨b, 7, none⟩ = some (.int .i64 3) := k7
  have e2 : bits .and .u8 (v : Int) 2 = 0 := by
    have h := u8_and_nat v 2 hv (by decide)
    rw [h2] at h
    exact h
  go_enter Try.func23, Try.ntmps23
  go_wp2_with fail
  have H1 : ∀ X, X = w.setCell ⟨b, 6, none⟩ (.bool false) → Pair X b ({ c with ends := false }) d := by
    rintro X rfl
    unfold Pair Chip.cells at H ⊢
    simp only [List.cons_append, List.nil_append] at H ⊢
    (first | (simp only [heap_set_map, putObj_cells, H, Option.map_some, List.set_cons_succ, List.set_cons_zero, heap_drewN, heap_drew]; done) | (simp only [heap_set_map, putObj_cells, H, Option.map_some, List.set_cons_succ, List.set_cons_zero, heap_drewN, heap_drew]; rfl))
  refine (onward_c b ({ c with ends := false }) d (by show c.stage ≠ 0; rw [hst]; decide) (by show c.stage < 4; rw [hst]; decide) _ (H1 _ rfl)).mono ?_
  rintro r w1 ⟨rfl, H2, hk⟩
  go_wp2_with fail
  go_returns
  exact ⟨rfl, H2, Keeps.trans ((Keeps.refl _ _).setOne _ _) hk⟩

set_option maxHeartbeats 2000000 in
theorem d3_1_c (b k : Nat) (c d : Chip) (hok : c.ok) (v : Nat) (hv : v < 256) (h0 : c.stage = 3) (h2 : v &&& 2 = 2) (w : World) (H : Pair w b c d) (kv : w.cell? ⟨k, 0, none⟩ = some (.int .u8 v)) (hkb : k ≠ b) :
    Calls Try.prog 23 #[.pointer (some ⟨b, 0, none⟩), .bool false, .pointer (some ⟨k, 0, none⟩)] w fun r w' => r = .returned (.tuple #[]) ∧ Pair w' b (onC ({ c with ends := true })) d ∧ Keeps (· = b) w w' := by
  obtain ⟨k0, k1, k2, k3, k4, k5, k6, k7, k8, k9, k10, k11, k12, k13, k14, k15, k16, k17, k18, k19, kf, klt⟩ := H.facts
  have hst : c.stage = 3 := h0
  rw [h0] at k7
  replace k7 : w.cell? ⟨b, 7, none⟩ = some (.int .i64 3) := k7
  have e2 : bits .and .u8 (v : Int) 2 = 2 := by
    have h := u8_and_nat v 2 hv (by decide)
    rw [h2] at h
    exact h
  go_enter Try.func23, Try.ntmps23
  go_wp2_with fail
  have H1 : ∀ X, X = w.setCell ⟨b, 6, none⟩ (.bool true) → Pair X b ({ c with ends := true }) d := by
    rintro X rfl
    unfold Pair Chip.cells at H ⊢
    simp only [List.cons_append, List.nil_append] at H ⊢
    (first | (simp only [heap_set_map, putObj_cells, H, Option.map_some, List.set_cons_succ, List.set_cons_zero, heap_drewN, heap_drew]; done) | (simp only [heap_set_map, putObj_cells, H, Option.map_some, List.set_cons_succ, List.set_cons_zero, heap_drewN, heap_drew]; rfl))
  refine (onward_c b ({ c with ends := true }) d (by show c.stage ≠ 0; rw [hst]; decide) (by show c.stage < 4; rw [hst]; decide) _ (H1 _ rfl)).mono ?_
  rintro r w1 ⟨rfl, H2, hk⟩
  go_wp2_with fail
  go_returns
  exact ⟨rfl, H2, Keeps.trans ((Keeps.refl _ _).setOne _ _) hk⟩

theorem out1_c (b k : Nat) (c d : Chip) (hok : c.ok) (command : Bool) (v : Nat) (hv : v < 256) (w : World) (H : Pair w b c d) (kv : w.cell? ⟨k, 0, none⟩ = some (.int .u8 v)) (hkb : k ≠ b) :
    Calls Try.prog 23 #[.pointer (some ⟨b, 0, none⟩), .bool command, .pointer (some ⟨k, 0, none⟩)] w fun r w' => r = .returned (.tuple #[]) ∧ Pair w' b (outC c command v) d ∧ Keeps (· = b) w w' := by
  have a1 := and_bit v 1 (by decide) hv
  have a2 := and_bit v 2 (by decide) hv
  have a8 := and_bit v 8 (by decide) hv
  have a16 := and_bit v 16 (by decide) hv
  cases command
  · by_cases h0 : c.stage = 0
    · have E : outC c false v = { c with masked := v } := by unfold outC; rw [if_neg (by decide), if_pos h0]
      rw [E]
      exact d0_c b k c d hok v hv h0 w H kv hkb
    · have h4 := hok.stage
      obtain h1 | h1 | h1 : c.stage = 1 ∨ c.stage = 2 ∨ c.stage = 3 := by omega
      · have E : outC c false v = onC { c with base := v &&& 248 } := by unfold outC; rw [if_neg (by decide), if_neg h0, if_pos h1]
        rw [E]
        exact d1_c b k c d hok v hv h1 w H kv hkb
      · have E : outC c false v = onC c := by unfold outC; rw [if_neg (by decide), if_neg h0, if_neg (by omega), if_neg (by omega)]
        rw [E]
        exact d2_c b k c d hok v hv h1 w H kv hkb
      · rcases a2 with a2 | a2
        · have E : outC c false v = onC { c with ends := false } := by unfold outC bit; rw [if_neg (by decide), if_neg h0, if_neg (by omega), if_pos h1, a2]; rfl
          rw [E]
          exact d3_0_c b k c d hok v hv h1 a2 w H kv hkb
        · have E : outC c false v = onC { c with ends := true } := by unfold outC bit; rw [if_neg (by decide), if_neg h0, if_neg (by omega), if_pos h1, a2]; rfl
          rw [E]
          exact d3_1_c b k c d hok v hv h1 a2 w H kv hkb
  · rcases a16 with a16 | a16
    · have b16 : bit v 16 = false := by unfold bit; rw [a16]; rfl
      rcases a8 with a8 | a8
      · have b8 : bit v 8 = false := by unfold bit; rw [a8]; rfl
        by_cases h1 : v / 32 = 1
        · have E : outC c true v = { c with served := c.served &&& ((c.served + 255) % 256) } := by unfold outC; rw [if_pos rfl, b16, b8, if_neg (by decide), if_neg (by decide), if_pos h1]
          rw [E]
          by_cases hz : c.served = 0
          · have E2 : c.served &&& ((c.served + 255) % 256) = 0 := by rw [hz]; rfl
            rw [E2]
            exact o1z_c b k c d hok v hv a16 a8 h1 hz w H kv hkb
          · exact o1_c b k c d hok v hv a16 a8 h1 (by omega) w H kv hkb
        · by_cases h3 : v / 32 = 3
          · have key : ∀ i, v &&& 7 = i → i < 8 → Calls Try.prog 23 #[.pointer (some ⟨b, 0, none⟩), .bool true, .pointer (some ⟨k, 0, none⟩)] w fun r w' => r = .returned (.tuple #[]) ∧ Pair w' b { c with served := c.served &&& (255 - 2 ^ i) } d ∧ Keeps (· = b) w w' := by
              intro i h7 hi
              obtain rfl | rfl | rfl | rfl | rfl | rfl | rfl | rfl : i = 0 ∨ i = 1 ∨ i = 2 ∨ i = 3 ∨ i = 4 ∨ i = 5 ∨ i = 6 ∨ i = 7 := by omega
              · exact o3_0_c b k c d hok v hv a16 a8 h3 h7 w H kv hkb
              · exact o3_1_c b k c d hok v hv a16 a8 h3 h7 w H kv hkb
              · exact o3_2_c b k c d hok v hv a16 a8 h3 h7 w H kv hkb
              · exact o3_3_c b k c d hok v hv a16 a8 h3 h7 w H kv hkb
              · exact o3_4_c b k c d hok v hv a16 a8 h3 h7 w H kv hkb
              · exact o3_5_c b k c d hok v hv a16 a8 h3 h7 w H kv hkb
              · exact o3_6_c b k c d hok v hv a16 a8 h3 h7 w H kv hkb
              · exact o3_7_c b k c d hok v hv a16 a8 h3 h7 w H kv hkb
            have E : outC c true v = { c with served := c.served &&& (255 - 2 ^ (v &&& 7)) } := by unfold outC; rw [if_pos rfl, b16, b8, if_neg (by decide), if_neg (by decide), if_neg h1, if_pos h3]
            rw [E]
            exact key _ rfl (Nat.lt_of_le_of_lt Nat.and_le_right (by decide))
          · have E : outC c true v = c := by unfold outC; rw [if_pos rfl, b16, b8, if_neg (by decide), if_neg (by decide), if_neg h1, if_neg h3]
            rw [E]
            exact on_c b k c d hok v hv a16 a8 h1 h3 w H kv hkb
      · have b8 : bit v 8 = true := by unfold bit; rw [a8]; rfl
        rcases a2 with a2 | a2
        · have E : outC c true v = c := by unfold outC; rw [if_pos rfl, b16, b8, if_neg (by decide), if_pos rfl]; unfold bit; rw [a2]; rfl
          rw [E]
          exact o8_n_c b k c d hok v hv a16 a8 a2 w H kv hkb
        · rcases a1 with a1 | a1
          · have E : outC c true v = { c with told := false } := by unfold outC; rw [if_pos rfl, b16, b8, if_neg (by decide), if_pos rfl]; unfold bit; rw [a2, a1]; rfl
            rw [E]
            exact o8_0_c b k c d hok v hv a16 a8 a2 a1 w H kv hkb
          · have E : outC c true v = { c with told := true } := by unfold outC; rw [if_pos rfl, b16, b8, if_neg (by decide), if_pos rfl]; unfold bit; rw [a2, a1]; rfl
            rw [E]
            exact o8_1_c b k c d hok v hv a16 a8 a2 a1 w H kv hkb
    · have b16 : bit v 16 = true := by unfold bit; rw [a16]; rfl
      have E : outC c true v = Chip.mk 0 0 0 c.up c.base false false 1 (!bit v 2) (bit v 1) := by unfold outC; rw [if_pos rfl, b16, if_pos rfl]
      rw [E]
      unfold bit
      rcases a2 with a2 | a2
      · rcases a1 with a1 | a1
        · rw [a2, a1]
          exact o16_00_c b k c d hok v hv a16 a2 a1 w H kv hkb
        · rw [a2, a1]
          exact o16_01_c b k c d hok v hv a16 a2 a1 w H kv hkb
      · rcases a1 with a1 | a1
        · rw [a2, a1]
          exact o16_10_c b k c d hok v hv a16 a2 a1 w H kv hkb
        · rw [a2, a1]
          exact o16_11_c b k c d hok v hv a16 a2 a1 w H kv hkb
end Go.Proofs.Ytfijohgbgadhiaa
