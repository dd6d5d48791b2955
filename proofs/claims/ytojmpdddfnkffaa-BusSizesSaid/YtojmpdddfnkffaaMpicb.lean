/- PicF PicG PicH PicI PicJ PicK, together. -/
import Derived.Test.YtojmpdddfnkffaaMpica
import Derived.Laws.EntriesVeiled
/- pic: Out$1. -/
namespace Go.Proofs.Ytojmpdddfnkffaa.Pic
open Go.RowKit
set_option linter.unusedVariables false
set_option linter.unusedSimpArgs false

set_option maxHeartbeats 2000000 in
theorem o16_00_d (b k : Nat) (c d : Chip) (hok : d.ok) (v : Nat) (hv : v < 256) (h16 : v &&& 16 = 16) (h2 : v &&& 2 = 0) (h1 : v &&& 1 = 0) (w : World) (H : Pair w b c d) (kv : w.cell? ⟨k, 0, none⟩ = some (.int .u8 v)) (hkb : k ≠ b) :
    Calls Try.prog 94 #[.pointer (some ⟨b, 10, none⟩), .bool true, .pointer (some ⟨k, 0, none⟩)] w fun r w' => r = .returned (.tuple #[]) ∧ Pair w' b c (Chip.mk 0 0 0 d.up d.base false false 1 true false) ∧ Keeps (· = b) w w' := by
  obtain ⟨k0, k1, k2, k3, k4, k5, k6, k7, k8, k9, k10, k11, k12, k13, k14, k15, k16, k17, k18, k19, kf, klt⟩ := H.facts
  have e16 : bits .and .u8 (v : Int) 16 = 16 := by
    have h := u8_and_nat v 16 hv (by decide)
    rw [h16] at h
    exact h
  have e2 : bits .and .u8 (v : Int) 2 = 0 := by
    have h := u8_and_nat v 2 hv (by decide)
    rw [h2] at h
    exact h
  have e1 : bits .and .u8 (v : Int) 1 = 0 := by
    have h := u8_and_nat v 1 hv (by decide)
    rw [h1] at h
    exact h
  go_enter Try.func94, Try.ntmps94
  go_wp2_with fail
  go_region
  go_wp2_with fail
  go_returns
  refine ⟨rfl, ?_, by (repeat' (first | (with_reducible exact Keeps.refl _ _) | (with_reducible exact hk) | (with_reducible refine Keeps.setOne ?_ _ _) | (with_reducible refine Keeps.alloc ?_ _) | (with_reducible refine Keeps.drew ?_) | (with_reducible refine Keeps.drewN ?_ _)))⟩
  unfold Pair Chip.cells at H ⊢
  simp only [List.cons_append, List.nil_append] at H ⊢
  (first | (simp only [heap_set_map, putObj_cells, H, Option.map_some, List.set_cons_succ, List.set_cons_zero, heap_drewN, heap_drew]; done) | (simp only [heap_set_map, putObj_cells, H, Option.map_some, List.set_cons_succ, List.set_cons_zero, heap_drewN, heap_drew]; rfl))

set_option maxHeartbeats 2000000 in
theorem o16_01_d (b k : Nat) (c d : Chip) (hok : d.ok) (v : Nat) (hv : v < 256) (h16 : v &&& 16 = 16) (h2 : v &&& 2 = 0) (h1 : v &&& 1 = 1) (w : World) (H : Pair w b c d) (kv : w.cell? ⟨k, 0, none⟩ = some (.int .u8 v)) (hkb : k ≠ b) :
    Calls Try.prog 94 #[.pointer (some ⟨b, 10, none⟩), .bool true, .pointer (some ⟨k, 0, none⟩)] w fun r w' => r = .returned (.tuple #[]) ∧ Pair w' b c (Chip.mk 0 0 0 d.up d.base false false 1 true true) ∧ Keeps (· = b) w w' := by
  obtain ⟨k0, k1, k2, k3, k4, k5, k6, k7, k8, k9, k10, k11, k12, k13, k14, k15, k16, k17, k18, k19, kf, klt⟩ := H.facts
  have e16 : bits .and .u8 (v : Int) 16 = 16 := by
    have h := u8_and_nat v 16 hv (by decide)
    rw [h16] at h
    exact h
  have e2 : bits .and .u8 (v : Int) 2 = 0 := by
    have h := u8_and_nat v 2 hv (by decide)
    rw [h2] at h
    exact h
  have e1 : bits .and .u8 (v : Int) 1 = 1 := by
    have h := u8_and_nat v 1 hv (by decide)
    rw [h1] at h
    exact h
  go_enter Try.func94, Try.ntmps94
  go_wp2_with fail
  go_region
  go_wp2_with fail
  go_returns
  refine ⟨rfl, ?_, by (repeat' (first | (with_reducible exact Keeps.refl _ _) | (with_reducible exact hk) | (with_reducible refine Keeps.setOne ?_ _ _) | (with_reducible refine Keeps.alloc ?_ _) | (with_reducible refine Keeps.drew ?_) | (with_reducible refine Keeps.drewN ?_ _)))⟩
  unfold Pair Chip.cells at H ⊢
  simp only [List.cons_append, List.nil_append] at H ⊢
  (first | (simp only [heap_set_map, putObj_cells, H, Option.map_some, List.set_cons_succ, List.set_cons_zero, heap_drewN, heap_drew]; done) | (simp only [heap_set_map, putObj_cells, H, Option.map_some, List.set_cons_succ, List.set_cons_zero, heap_drewN, heap_drew]; rfl))

set_option maxHeartbeats 2000000 in
theorem o16_10_d (b k : Nat) (c d : Chip) (hok : d.ok) (v : Nat) (hv : v < 256) (h16 : v &&& 16 = 16) (h2 : v &&& 2 = 2) (h1 : v &&& 1 = 0) (w : World) (H : Pair w b c d) (kv : w.cell? ⟨k, 0, none⟩ = some (.int .u8 v)) (hkb : k ≠ b) :
    Calls Try.prog 94 #[.pointer (some ⟨b, 10, none⟩), .bool true, .pointer (some ⟨k, 0, none⟩)] w fun r w' => r = .returned (.tuple #[]) ∧ Pair w' b c (Chip.mk 0 0 0 d.up d.base false false 1 false false) ∧ Keeps (· = b) w w' := by
  obtain ⟨k0, k1, k2, k3, k4, k5, k6, k7, k8, k9, k10, k11, k12, k13, k14, k15, k16, k17, k18, k19, kf, klt⟩ := H.facts
  have e16 : bits .and .u8 (v : Int) 16 = 16 := by
    have h := u8_and_nat v 16 hv (by decide)
    rw [h16] at h
    exact h
  have e2 : bits .and .u8 (v : Int) 2 = 2 := by
    have h := u8_and_nat v 2 hv (by decide)
    rw [h2] at h
    exact h
  have e1 : bits .and .u8 (v : Int) 1 = 0 := by
    have h := u8_and_nat v 1 hv (by decide)
    rw [h1] at h
    exact h
  go_enter Try.func94, Try.ntmps94
  go_wp2_with fail
  go_region
  go_wp2_with fail
  go_returns
  refine ⟨rfl, ?_, by (repeat' (first | (with_reducible exact Keeps.refl _ _) | (with_reducible exact hk) | (with_reducible refine Keeps.setOne ?_ _ _) | (with_reducible refine Keeps.alloc ?_ _) | (with_reducible refine Keeps.drew ?_) | (with_reducible refine Keeps.drewN ?_ _)))⟩
  unfold Pair Chip.cells at H ⊢
  simp only [List.cons_append, List.nil_append] at H ⊢
  (first | (simp only [heap_set_map, putObj_cells, H, Option.map_some, List.set_cons_succ, List.set_cons_zero, heap_drewN, heap_drew]; done) | (simp only [heap_set_map, putObj_cells, H, Option.map_some, List.set_cons_succ, List.set_cons_zero, heap_drewN, heap_drew]; rfl))

set_option maxHeartbeats 2000000 in
theorem o16_11_d (b k : Nat) (c d : Chip) (hok : d.ok) (v : Nat) (hv : v < 256) (h16 : v &&& 16 = 16) (h2 : v &&& 2 = 2) (h1 : v &&& 1 = 1) (w : World) (H : Pair w b c d) (kv : w.cell? ⟨k, 0, none⟩ = some (.int .u8 v)) (hkb : k ≠ b) :
    Calls Try.prog 94 #[.pointer (some ⟨b, 10, none⟩), .bool true, .pointer (some ⟨k, 0, none⟩)] w fun r w' => r = .returned (.tuple #[]) ∧ Pair w' b c (Chip.mk 0 0 0 d.up d.base false false 1 false true) ∧ Keeps (· = b) w w' := by
  obtain ⟨k0, k1, k2, k3, k4, k5, k6, k7, k8, k9, k10, k11, k12, k13, k14, k15, k16, k17, k18, k19, kf, klt⟩ := H.facts
  have e16 : bits .and .u8 (v : Int) 16 = 16 := by
    have h := u8_and_nat v 16 hv (by decide)
    rw [h16] at h
    exact h
  have e2 : bits .and .u8 (v : Int) 2 = 2 := by
    have h := u8_and_nat v 2 hv (by decide)
    rw [h2] at h
    exact h
  have e1 : bits .and .u8 (v : Int) 1 = 1 := by
    have h := u8_and_nat v 1 hv (by decide)
    rw [h1] at h
    exact h
  go_enter Try.func94, Try.ntmps94
  go_wp2_with fail
  go_region
  go_wp2_with fail
  go_returns
  refine ⟨rfl, ?_, by (repeat' (first | (with_reducible exact Keeps.refl _ _) | (with_reducible exact hk) | (with_reducible refine Keeps.setOne ?_ _ _) | (with_reducible refine Keeps.alloc ?_ _) | (with_reducible refine Keeps.drew ?_) | (with_reducible refine Keeps.drewN ?_ _)))⟩
  unfold Pair Chip.cells at H ⊢
  simp only [List.cons_append, List.nil_append] at H ⊢
  (first | (simp only [heap_set_map, putObj_cells, H, Option.map_some, List.set_cons_succ, List.set_cons_zero, heap_drewN, heap_drew]; done) | (simp only [heap_set_map, putObj_cells, H, Option.map_some, List.set_cons_succ, List.set_cons_zero, heap_drewN, heap_drew]; rfl))

set_option maxHeartbeats 2000000 in
theorem o8_0_d (b k : Nat) (c d : Chip) (hok : d.ok) (v : Nat) (hv : v < 256) (h16 : v &&& 16 = 0) (h8 : v &&& 8 = 8) (h2 : v &&& 2 = 2) (h1 : v &&& 1 = 0) (w : World) (H : Pair w b c d) (kv : w.cell? ⟨k, 0, none⟩ = some (.int .u8 v)) (hkb : k ≠ b) :
    Calls Try.prog 94 #[.pointer (some ⟨b, 10, none⟩), .bool true, .pointer (some ⟨k, 0, none⟩)] w fun r w' => r = .returned (.tuple #[]) ∧ Pair w' b c ({ d with told := false }) ∧ Keeps (· = b) w w' := by
  obtain ⟨k0, k1, k2, k3, k4, k5, k6, k7, k8, k9, k10, k11, k12, k13, k14, k15, k16, k17, k18, k19, kf, klt⟩ := H.facts
  have e16 : bits .and .u8 (v : Int) 16 = 0 := by
    have h := u8_and_nat v 16 hv (by decide)
    rw [h16] at h
    exact h
  have e8 : bits .and .u8 (v : Int) 8 = 8 := by
    have h := u8_and_nat v 8 hv (by decide)
    rw [h8] at h
    exact h
  have e2 : bits .and .u8 (v : Int) 2 = 2 := by
    have h := u8_and_nat v 2 hv (by decide)
    rw [h2] at h
    exact h
  have e1 : bits .and .u8 (v : Int) 1 = 0 := by
    have h := u8_and_nat v 1 hv (by decide)
    rw [h1] at h
    exact h
  go_enter Try.func94, Try.ntmps94
  go_wp2_with fail
  go_returns
  refine ⟨rfl, ?_, by (repeat' (first | (with_reducible exact Keeps.refl _ _) | (with_reducible exact hk) | (with_reducible refine Keeps.setOne ?_ _ _) | (with_reducible refine Keeps.alloc ?_ _) | (with_reducible refine Keeps.drew ?_) | (with_reducible refine Keeps.drewN ?_ _)))⟩
  unfold Pair Chip.cells at H ⊢
  simp only [List.cons_append, List.nil_append] at H ⊢
  (first | (simp only [heap_set_map, putObj_cells, H, Option.map_some, List.set_cons_succ, List.set_cons_zero, heap_drewN, heap_drew]; done) | (simp only [heap_set_map, putObj_cells, H, Option.map_some, List.set_cons_succ, List.set_cons_zero, heap_drewN, heap_drew]; rfl))

set_option maxHeartbeats 2000000 in
theorem o8_1_d (b k : Nat) (c d : Chip) (hok : d.ok) (v : Nat) (hv : v < 256) (h16 : v &&& 16 = 0) (h8 : v &&& 8 = 8) (h2 : v &&& 2 = 2) (h1 : v &&& 1 = 1) (w : World) (H : Pair w b c d) (kv : w.cell? ⟨k, 0, none⟩ = some (.int .u8 v)) (hkb : k ≠ b) :
    Calls Try.prog 94 #[.pointer (some ⟨b, 10, none⟩), .bool true, .pointer (some ⟨k, 0, none⟩)] w fun r w' => r = .returned (.tuple #[]) ∧ Pair w' b c ({ d with told := true }) ∧ Keeps (· = b) w w' := by
  obtain ⟨k0, k1, k2, k3, k4, k5, k6, k7, k8, k9, k10, k11, k12, k13, k14, k15, k16, k17, k18, k19, kf, klt⟩ := H.facts
  have e16 : bits .and .u8 (v : Int) 16 = 0 := by
    have h := u8_and_nat v 16 hv (by decide)
    rw [h16] at h
    exact h
  have e8 : bits .and .u8 (v : Int) 8 = 8 := by
    have h := u8_and_nat v 8 hv (by decide)
    rw [h8] at h
    exact h
  have e2 : bits .and .u8 (v : Int) 2 = 2 := by
    have h := u8_and_nat v 2 hv (by decide)
    rw [h2] at h
    exact h
  have e1 : bits .and .u8 (v : Int) 1 = 1 := by
    have h := u8_and_nat v 1 hv (by decide)
    rw [h1] at h
    exact h
  go_enter Try.func94, Try.ntmps94
  go_wp2_with fail
  go_returns
  refine ⟨rfl, ?_, by (repeat' (first | (with_reducible exact Keeps.refl _ _) | (with_reducible exact hk) | (with_reducible refine Keeps.setOne ?_ _ _) | (with_reducible refine Keeps.alloc ?_ _) | (with_reducible refine Keeps.drew ?_) | (with_reducible refine Keeps.drewN ?_ _)))⟩
  unfold Pair Chip.cells at H ⊢
  simp only [List.cons_append, List.nil_append] at H ⊢
  (first | (simp only [heap_set_map, putObj_cells, H, Option.map_some, List.set_cons_succ, List.set_cons_zero, heap_drewN, heap_drew]; done) | (simp only [heap_set_map, putObj_cells, H, Option.map_some, List.set_cons_succ, List.set_cons_zero, heap_drewN, heap_drew]; rfl))

set_option maxHeartbeats 2000000 in
theorem o8_n_d (b k : Nat) (c d : Chip) (hok : d.ok) (v : Nat) (hv : v < 256) (h16 : v &&& 16 = 0) (h8 : v &&& 8 = 8) (h2 : v &&& 2 = 0) (w : World) (H : Pair w b c d) (kv : w.cell? ⟨k, 0, none⟩ = some (.int .u8 v)) (hkb : k ≠ b) :
    Calls Try.prog 94 #[.pointer (some ⟨b, 10, none⟩), .bool true, .pointer (some ⟨k, 0, none⟩)] w fun r w' => r = .returned (.tuple #[]) ∧ Pair w' b c (d) ∧ Keeps (· = b) w w' := by
  obtain ⟨k0, k1, k2, k3, k4, k5, k6, k7, k8, k9, k10, k11, k12, k13, k14, k15, k16, k17, k18, k19, kf, klt⟩ := H.facts
  have e16 : bits .and .u8 (v : Int) 16 = 0 := by
    have h := u8_and_nat v 16 hv (by decide)
    rw [h16] at h
    exact h
  have e8 : bits .and .u8 (v : Int) 8 = 8 := by
    have h := u8_and_nat v 8 hv (by decide)
    rw [h8] at h
    exact h
  have e2 : bits .and .u8 (v : Int) 2 = 0 := by
    have h := u8_and_nat v 2 hv (by decide)
    rw [h2] at h
    exact h
  go_enter Try.func94, Try.ntmps94
  go_wp2_with fail
  go_returns
  exact ⟨rfl, H, Keeps.refl _ _⟩

set_option maxHeartbeats 2000000 in
theorem o1_d (b k : Nat) (c d : Chip) (hok : d.ok) (v : Nat) (hv : v < 256) (h16 : v &&& 16 = 0) (h8 : v &&& 8 = 0) (h5 : v / 32 = 1) (hz : 0 < d.served) (w : World) (H : Pair w b c d) (kv : w.cell? ⟨k, 0, none⟩ = some (.int .u8 v)) (hkb : k ≠ b) :
    Calls Try.prog 94 #[.pointer (some ⟨b, 10, none⟩), .bool true, .pointer (some ⟨k, 0, none⟩)] w fun r w' => r = .returned (.tuple #[]) ∧ Pair w' b c ({ d with served := d.served &&& ((d.served + 255) % 256) }) ∧ Keeps (· = b) w w' := by
  obtain ⟨k0, k1, k2, k3, k4, k5, k6, k7, k8, k9, k10, k11, k12, k13, k14, k15, k16, k17, k18, k19, kf, klt⟩ := H.facts
  have e16 : bits .and .u8 (v : Int) 16 = 0 := by
    have h := u8_and_nat v 16 hv (by decide)
    rw [h16] at h
    exact h
  have e8 : bits .and .u8 (v : Int) 8 = 0 := by
    have h := u8_and_nat v 8 hv (by decide)
    rw [h8] at h
    exact h
  have hs := hok.served
  have es : bits .and .u8 (d.served : Int) ((d.served : Int) - 1) = ((d.served &&& ((d.served + 255) % 256) : Nat) : Int) := by
    have h := u8_and_nat d.served ((d.served + 255) % 256) hs (Nat.mod_lt _ (by decide))
    rw [← h]
    congr 1
    omega
  go_enter Try.func94, Try.ntmps94
  go_wp2_with fail
  go_region
  go_wp2_with fail
  go_returns
  refine ⟨rfl, ?_, by (repeat' (first | (with_reducible exact Keeps.refl _ _) | (with_reducible exact hk) | (with_reducible refine Keeps.setOne ?_ _ _) | (with_reducible refine Keeps.alloc ?_ _) | (with_reducible refine Keeps.drew ?_) | (with_reducible refine Keeps.drewN ?_ _)))⟩
  unfold Pair Chip.cells at H ⊢
  simp only [List.cons_append, List.nil_append] at H ⊢
  (first | (simp only [heap_set_map, putObj_cells, H, Option.map_some, List.set_cons_succ, List.set_cons_zero, heap_drewN, heap_drew]; done) | (simp only [heap_set_map, putObj_cells, H, Option.map_some, List.set_cons_succ, List.set_cons_zero, heap_drewN, heap_drew]; rfl))

set_option maxHeartbeats 2000000 in
theorem o1z_d (b k : Nat) (c d : Chip) (hok : d.ok) (v : Nat) (hv : v < 256) (h16 : v &&& 16 = 0) (h8 : v &&& 8 = 0) (h5 : v / 32 = 1) (hz : d.served = 0) (w : World) (H : Pair w b c d) (kv : w.cell? ⟨k, 0, none⟩ = some (.int .u8 v)) (hkb : k ≠ b) :
    Calls Try.prog 94 #[.pointer (some ⟨b, 10, none⟩), .bool true, .pointer (some ⟨k, 0, none⟩)] w fun r w' => r = .returned (.tuple #[]) ∧ Pair w' b c ({ d with served := 0 }) ∧ Keeps (· = b) w w' := by
  obtain ⟨k0, k1, k2, k3, k4, k5, k6, k7, k8, k9, k10, k11, k12, k13, k14, k15, k16, k17, k18, k19, kf, klt⟩ := H.facts
  have e16 : bits .and .u8 (v : Int) 16 = 0 := by
    have h := u8_and_nat v 16 hv (by decide)
    rw [h16] at h
    exact h
  have e8 : bits .and .u8 (v : Int) 8 = 0 := by
    have h := u8_and_nat v 8 hv (by decide)
    rw [h8] at h
    exact h
  have hs := hok.served
  have es : bits .and .u8 0 255 = 0 := by decide
  rw [hz] at k11
  go_enter Try.func94, Try.ntmps94
  go_wp2_with fail
  go_region
  go_wp2_with fail
  go_returns
  refine ⟨rfl, ?_, by (repeat' (first | (with_reducible exact Keeps.refl _ _) | (with_reducible exact hk) | (with_reducible refine Keeps.setOne ?_ _ _) | (with_reducible refine Keeps.alloc ?_ _) | (with_reducible refine Keeps.drew ?_) | (with_reducible refine Keeps.drewN ?_ _)))⟩
  unfold Pair Chip.cells at H ⊢
  simp only [List.cons_append, List.nil_append] at H ⊢
  (first | (simp only [heap_set_map, putObj_cells, H, Option.map_some, List.set_cons_succ, List.set_cons_zero, heap_drewN, heap_drew]; done) | (simp only [heap_set_map, putObj_cells, H, Option.map_some, List.set_cons_succ, List.set_cons_zero, heap_drewN, heap_drew]; rfl))

set_option maxHeartbeats 2000000 in
theorem o3_0_d (b k : Nat) (c d : Chip) (hok : d.ok) (v : Nat) (hv : v < 256) (h16 : v &&& 16 = 0) (h8 : v &&& 8 = 0) (h5 : v / 32 = 3) (h7 : v &&& 7 = 0) (w : World) (H : Pair w b c d) (kv : w.cell? ⟨k, 0, none⟩ = some (.int .u8 v)) (hkb : k ≠ b) :
    Calls Try.prog 94 #[.pointer (some ⟨b, 10, none⟩), .bool true, .pointer (some ⟨k, 0, none⟩)] w fun r w' => r = .returned (.tuple #[]) ∧ Pair w' b c ({ d with served := d.served &&& 254 }) ∧ Keeps (· = b) w w' := by
  obtain ⟨k0, k1, k2, k3, k4, k5, k6, k7, k8, k9, k10, k11, k12, k13, k14, k15, k16, k17, k18, k19, kf, klt⟩ := H.facts
  have e16 : bits .and .u8 (v : Int) 16 = 0 := by
    have h := u8_and_nat v 16 hv (by decide)
    rw [h16] at h
    exact h
  have e8 : bits .and .u8 (v : Int) 8 = 0 := by
    have h := u8_and_nat v 8 hv (by decide)
    rw [h8] at h
    exact h
  have e7 : bits .and .u8 (v : Int) 7 = 0 := by
    have h := u8_and_nat v 7 hv (by decide)
    rw [h7] at h
    exact h
  have es : bits .andNot .u8 (d.served : Int) 1 = ((d.served &&& 254 : Nat) : Int) := u8_andNot_nat d.served 1 hok.served (by decide)
  go_enter Try.func94, Try.ntmps94
  go_wp2_with fail
  go_region
  go_wp2_with fail
  go_returns
  refine ⟨rfl, ?_, by (repeat' (first | (with_reducible exact Keeps.refl _ _) | (with_reducible exact hk) | (with_reducible refine Keeps.setOne ?_ _ _) | (with_reducible refine Keeps.alloc ?_ _) | (with_reducible refine Keeps.drew ?_) | (with_reducible refine Keeps.drewN ?_ _)))⟩
  unfold Pair Chip.cells at H ⊢
  simp only [List.cons_append, List.nil_append] at H ⊢
  (first | (simp only [heap_set_map, putObj_cells, H, Option.map_some, List.set_cons_succ, List.set_cons_zero, heap_drewN, heap_drew]; done) | (simp only [heap_set_map, putObj_cells, H, Option.map_some, List.set_cons_succ, List.set_cons_zero, heap_drewN, heap_drew]; rfl))

set_option maxHeartbeats 2000000 in
theorem o3_1_d (b k : Nat) (c d : Chip) (hok : d.ok) (v : Nat) (hv : v < 256) (h16 : v &&& 16 = 0) (h8 : v &&& 8 = 0) (h5 : v / 32 = 3) (h7 : v &&& 7 = 1) (w : World) (H : Pair w b c d) (kv : w.cell? ⟨k, 0, none⟩ = some (.int .u8 v)) (hkb : k ≠ b) :
    Calls Try.prog 94 #[.pointer (some ⟨b, 10, none⟩), .bool true, .pointer (some ⟨k, 0, none⟩)] w fun r w' => r = .returned (.tuple #[]) ∧ Pair w' b c ({ d with served := d.served &&& 253 }) ∧ Keeps (· = b) w w' := by
  obtain ⟨k0, k1, k2, k3, k4, k5, k6, k7, k8, k9, k10, k11, k12, k13, k14, k15, k16, k17, k18, k19, kf, klt⟩ := H.facts
  have e16 : bits .and .u8 (v : Int) 16 = 0 := by
    have h := u8_and_nat v 16 hv (by decide)
    rw [h16] at h
    exact h
  have e8 : bits .and .u8 (v : Int) 8 = 0 := by
    have h := u8_and_nat v 8 hv (by decide)
    rw [h8] at h
    exact h
  have e7 : bits .and .u8 (v : Int) 7 = 1 := by
    have h := u8_and_nat v 7 hv (by decide)
    rw [h7] at h
    exact h
  have es : bits .andNot .u8 (d.served : Int) 2 = ((d.served &&& 253 : Nat) : Int) := u8_andNot_nat d.served 2 hok.served (by decide)
  go_enter Try.func94, Try.ntmps94
  go_wp2_with fail
  go_region
  go_wp2_with fail
  go_returns
  refine ⟨rfl, ?_, by (repeat' (first | (with_reducible exact Keeps.refl _ _) | (with_reducible exact hk) | (with_reducible refine Keeps.setOne ?_ _ _) | (with_reducible refine Keeps.alloc ?_ _) | (with_reducible refine Keeps.drew ?_) | (with_reducible refine Keeps.drewN ?_ _)))⟩
  unfold Pair Chip.cells at H ⊢
  simp only [List.cons_append, List.nil_append] at H ⊢
  (first | (simp only [heap_set_map, putObj_cells, H, Option.map_some, List.set_cons_succ, List.set_cons_zero, heap_drewN, heap_drew]; done) | (simp only [heap_set_map, putObj_cells, H, Option.map_some, List.set_cons_succ, List.set_cons_zero, heap_drewN, heap_drew]; rfl))

set_option maxHeartbeats 2000000 in
theorem o3_2_d (b k : Nat) (c d : Chip) (hok : d.ok) (v : Nat) (hv : v < 256) (h16 : v &&& 16 = 0) (h8 : v &&& 8 = 0) (h5 : v / 32 = 3) (h7 : v &&& 7 = 2) (w : World) (H : Pair w b c d) (kv : w.cell? ⟨k, 0, none⟩ = some (.int .u8 v)) (hkb : k ≠ b) :
    Calls Try.prog 94 #[.pointer (some ⟨b, 10, none⟩), .bool true, .pointer (some ⟨k, 0, none⟩)] w fun r w' => r = .returned (.tuple #[]) ∧ Pair w' b c ({ d with served := d.served &&& 251 }) ∧ Keeps (· = b) w w' := by
  obtain ⟨k0, k1, k2, k3, k4, k5, k6, k7, k8, k9, k10, k11, k12, k13, k14, k15, k16, k17, k18, k19, kf, klt⟩ := H.facts
  have e16 : bits .and .u8 (v : Int) 16 = 0 := by
    have h := u8_and_nat v 16 hv (by decide)
    rw [h16] at h
    exact h
  have e8 : bits .and .u8 (v : Int) 8 = 0 := by
    have h := u8_and_nat v 8 hv (by decide)
    rw [h8] at h
    exact h
  have e7 : bits .and .u8 (v : Int) 7 = 2 := by
    have h := u8_and_nat v 7 hv (by decide)
    rw [h7] at h
    exact h
  have es : bits .andNot .u8 (d.served : Int) 4 = ((d.served &&& 251 : Nat) : Int) := u8_andNot_nat d.served 4 hok.served (by decide)
  go_enter Try.func94, Try.ntmps94
  go_wp2_with fail
  go_region
  go_wp2_with fail
  go_returns
  refine ⟨rfl, ?_, by (repeat' (first | (with_reducible exact Keeps.refl _ _) | (with_reducible exact hk) | (with_reducible refine Keeps.setOne ?_ _ _) | (with_reducible refine Keeps.alloc ?_ _) | (with_reducible refine Keeps.drew ?_) | (with_reducible refine Keeps.drewN ?_ _)))⟩
  unfold Pair Chip.cells at H ⊢
  simp only [List.cons_append, List.nil_append] at H ⊢
  (first | (simp only [heap_set_map, putObj_cells, H, Option.map_some, List.set_cons_succ, List.set_cons_zero, heap_drewN, heap_drew]; done) | (simp only [heap_set_map, putObj_cells, H, Option.map_some, List.set_cons_succ, List.set_cons_zero, heap_drewN, heap_drew]; rfl))

set_option maxHeartbeats 2000000 in
theorem o3_3_d (b k : Nat) (c d : Chip) (hok : d.ok) (v : Nat) (hv : v < 256) (h16 : v &&& 16 = 0) (h8 : v &&& 8 = 0) (h5 : v / 32 = 3) (h7 : v &&& 7 = 3) (w : World) (H : Pair w b c d) (kv : w.cell? ⟨k, 0, none⟩ = some (.int .u8 v)) (hkb : k ≠ b) :
    Calls Try.prog 94 #[.pointer (some ⟨b, 10, none⟩), .bool true, .pointer (some ⟨k, 0, none⟩)] w fun r w' => r = .returned (.tuple #[]) ∧ Pair w' b c ({ d with served := d.served &&& 247 }) ∧ Keeps (· = b) w w' := by
  obtain ⟨k0, k1, k2, k3, k4, k5, k6, k7, k8, k9, k10, k11, k12, k13, k14, k15, k16, k17, k18, k19, kf, klt⟩ := H.facts
  have e16 : bits .and .u8 (v : Int) 16 = 0 := by
    have h := u8_and_nat v 16 hv (by decide)
    rw [h16] at h
    exact h
  have e8 : bits .and .u8 (v : Int) 8 = 0 := by
    have h := u8_and_nat v 8 hv (by decide)
    rw [h8] at h
    exact h
  have e7 : bits .and .u8 (v : Int) 7 = 3 := by
    have h := u8_and_nat v 7 hv (by decide)
    rw [h7] at h
    exact h
  have es : bits .andNot .u8 (d.served : Int) 8 = ((d.served &&& 247 : Nat) : Int) := u8_andNot_nat d.served 8 hok.served (by decide)
  go_enter Try.func94, Try.ntmps94
  go_wp2_with fail
  go_region
  go_wp2_with fail
  go_returns
  refine ⟨rfl, ?_, by (repeat' (first | (with_reducible exact Keeps.refl _ _) | (with_reducible exact hk) | (with_reducible refine Keeps.setOne ?_ _ _) | (with_reducible refine Keeps.alloc ?_ _) | (with_reducible refine Keeps.drew ?_) | (with_reducible refine Keeps.drewN ?_ _)))⟩
  unfold Pair Chip.cells at H ⊢
  simp only [List.cons_append, List.nil_append] at H ⊢
  (first | (simp only [heap_set_map, putObj_cells, H, Option.map_some, List.set_cons_succ, List.set_cons_zero, heap_drewN, heap_drew]; done) | (simp only [heap_set_map, putObj_cells, H, Option.map_some, List.set_cons_succ, List.set_cons_zero, heap_drewN, heap_drew]; rfl))

set_option maxHeartbeats 2000000 in
theorem o3_4_d (b k : Nat) (c d : Chip) (hok : d.ok) (v : Nat) (hv : v < 256) (h16 : v &&& 16 = 0) (h8 : v &&& 8 = 0) (h5 : v / 32 = 3) (h7 : v &&& 7 = 4) (w : World) (H : Pair w b c d) (kv : w.cell? ⟨k, 0, none⟩ = some (.int .u8 v)) (hkb : k ≠ b) :
    Calls Try.prog 94 #[.pointer (some ⟨b, 10, none⟩), .bool true, .pointer (some ⟨k, 0, none⟩)] w fun r w' => r = .returned (.tuple #[]) ∧ Pair w' b c ({ d with served := d.served &&& 239 }) ∧ Keeps (· = b) w w' := by
  obtain ⟨k0, k1, k2, k3, k4, k5, k6, k7, k8, k9, k10, k11, k12, k13, k14, k15, k16, k17, k18, k19, kf, klt⟩ := H.facts
  have e16 : bits .and .u8 (v : Int) 16 = 0 := by
    have h := u8_and_nat v 16 hv (by decide)
    rw [h16] at h
    exact h
  have e8 : bits .and .u8 (v : Int) 8 = 0 := by
    have h := u8_and_nat v 8 hv (by decide)
    rw [h8] at h
    exact h
  have e7 : bits .and .u8 (v : Int) 7 = 4 := by
    have h := u8_and_nat v 7 hv (by decide)
    rw [h7] at h
    exact h
  have es : bits .andNot .u8 (d.served : Int) 16 = ((d.served &&& 239 : Nat) : Int) := u8_andNot_nat d.served 16 hok.served (by decide)
  go_enter Try.func94, Try.ntmps94
  go_wp2_with fail
  go_region
  go_wp2_with fail
  go_returns
  refine ⟨rfl, ?_, by (repeat' (first | (with_reducible exact Keeps.refl _ _) | (with_reducible exact hk) | (with_reducible refine Keeps.setOne ?_ _ _) | (with_reducible refine Keeps.alloc ?_ _) | (with_reducible refine Keeps.drew ?_) | (with_reducible refine Keeps.drewN ?_ _)))⟩
  unfold Pair Chip.cells at H ⊢
  simp only [List.cons_append, List.nil_append] at H ⊢
  (first | (simp only [heap_set_map, putObj_cells, H, Option.map_some, List.set_cons_succ, List.set_cons_zero, heap_drewN, heap_drew]; done) | (simp only [heap_set_map, putObj_cells, H, Option.map_some, List.set_cons_succ, List.set_cons_zero, heap_drewN, heap_drew]; rfl))

set_option maxHeartbeats 2000000 in
theorem o3_5_d (b k : Nat) (c d : Chip) (hok : d.ok) (v : Nat) (hv : v < 256) (h16 : v &&& 16 = 0) (h8 : v &&& 8 = 0) (h5 : v / 32 = 3) (h7 : v &&& 7 = 5) (w : World) (H : Pair w b c d) (kv : w.cell? ⟨k, 0, none⟩ = some (.int .u8 v)) (hkb : k ≠ b) :
    Calls Try.prog 94 #[.pointer (some ⟨b, 10, none⟩), .bool true, .pointer (some ⟨k, 0, none⟩)] w fun r w' => r = .returned (.tuple #[]) ∧ Pair w' b c ({ d with served := d.served &&& 223 }) ∧ Keeps (· = b) w w' := by
  obtain ⟨k0, k1, k2, k3, k4, k5, k6, k7, k8, k9, k10, k11, k12, k13, k14, k15, k16, k17, k18, k19, kf, klt⟩ := H.facts
  have e16 : bits .and .u8 (v : Int) 16 = 0 := by
    have h := u8_and_nat v 16 hv (by decide)
    rw [h16] at h
    exact h
  have e8 : bits .and .u8 (v : Int) 8 = 0 := by
    have h := u8_and_nat v 8 hv (by decide)
    rw [h8] at h
    exact h
  have e7 : bits .and .u8 (v : Int) 7 = 5 := by
    have h := u8_and_nat v 7 hv (by decide)
    rw [h7] at h
    exact h
  have es : bits .andNot .u8 (d.served : Int) 32 = ((d.served &&& 223 : Nat) : Int) := u8_andNot_nat d.served 32 hok.served (by decide)
  go_enter Try.func94, Try.ntmps94
  go_wp2_with fail
  go_region
  go_wp2_with fail
  go_returns
  refine ⟨rfl, ?_, by (repeat' (first | (with_reducible exact Keeps.refl _ _) | (with_reducible exact hk) | (with_reducible refine Keeps.setOne ?_ _ _) | (with_reducible refine Keeps.alloc ?_ _) | (with_reducible refine Keeps.drew ?_) | (with_reducible refine Keeps.drewN ?_ _)))⟩
  unfold Pair Chip.cells at H ⊢
  simp only [List.cons_append, List.nil_append] at H ⊢
  (first | (simp only [heap_set_map, putObj_cells, H, Option.map_some, List.set_cons_succ, List.set_cons_zero, heap_drewN, heap_drew]; done) | (simp only [heap_set_map, putObj_cells, H, Option.map_some, List.set_cons_succ, List.set_cons_zero, heap_drewN, heap_drew]; rfl))

set_option maxHeartbeats 2000000 in
theorem o3_6_d (b k : Nat) (c d : Chip) (hok : d.ok) (v : Nat) (hv : v < 256) (h16 : v &&& 16 = 0) (h8 : v &&& 8 = 0) (h5 : v / 32 = 3) (h7 : v &&& 7 = 6) (w : World) (H : Pair w b c d) (kv : w.cell? ⟨k, 0, none⟩ = some (.int .u8 v)) (hkb : k ≠ b) :
    Calls Try.prog 94 #[.pointer (some ⟨b, 10, none⟩), .bool true, .pointer (some ⟨k, 0, none⟩)] w fun r w' => r = .returned (.tuple #[]) ∧ Pair w' b c ({ d with served := d.served &&& 191 }) ∧ Keeps (· = b) w w' := by
  obtain ⟨k0, k1, k2, k3, k4, k5, k6, k7, k8, k9, k10, k11, k12, k13, k14, k15, k16, k17, k18, k19, kf, klt⟩ := H.facts
  have e16 : bits .and .u8 (v : Int) 16 = 0 := by
    have h := u8_and_nat v 16 hv (by decide)
    rw [h16] at h
    exact h
  have e8 : bits .and .u8 (v : Int) 8 = 0 := by
    have h := u8_and_nat v 8 hv (by decide)
    rw [h8] at h
    exact h
  have e7 : bits .and .u8 (v : Int) 7 = 6 := by
    have h := u8_and_nat v 7 hv (by decide)
    rw [h7] at h
    exact h
  have es : bits .andNot .u8 (d.served : Int) 64 = ((d.served &&& 191 : Nat) : Int) := u8_andNot_nat d.served 64 hok.served (by decide)
  go_enter Try.func94, Try.ntmps94
  go_wp2_with fail
  go_region
  go_wp2_with fail
  go_returns
  refine ⟨rfl, ?_, by (repeat' (first | (with_reducible exact Keeps.refl _ _) | (with_reducible exact hk) | (with_reducible refine Keeps.setOne ?_ _ _) | (with_reducible refine Keeps.alloc ?_ _) | (with_reducible refine Keeps.drew ?_) | (with_reducible refine Keeps.drewN ?_ _)))⟩
  unfold Pair Chip.cells at H ⊢
  simp only [List.cons_append, List.nil_append] at H ⊢
  (first | (simp only [heap_set_map, putObj_cells, H, Option.map_some, List.set_cons_succ, List.set_cons_zero, heap_drewN, heap_drew]; done) | (simp only [heap_set_map, putObj_cells, H, Option.map_some, List.set_cons_succ, List.set_cons_zero, heap_drewN, heap_drew]; rfl))

set_option maxHeartbeats 2000000 in
theorem o3_7_d (b k : Nat) (c d : Chip) (hok : d.ok) (v : Nat) (hv : v < 256) (h16 : v &&& 16 = 0) (h8 : v &&& 8 = 0) (h5 : v / 32 = 3) (h7 : v &&& 7 = 7) (w : World) (H : Pair w b c d) (kv : w.cell? ⟨k, 0, none⟩ = some (.int .u8 v)) (hkb : k ≠ b) :
    Calls Try.prog 94 #[.pointer (some ⟨b, 10, none⟩), .bool true, .pointer (some ⟨k, 0, none⟩)] w fun r w' => r = .returned (.tuple #[]) ∧ Pair w' b c ({ d with served := d.served &&& 127 }) ∧ Keeps (· = b) w w' := by
  obtain ⟨k0, k1, k2, k3, k4, k5, k6, k7, k8, k9, k10, k11, k12, k13, k14, k15, k16, k17, k18, k19, kf, klt⟩ := H.facts
  have e16 : bits .and .u8 (v : Int) 16 = 0 := by
    have h := u8_and_nat v 16 hv (by decide)
    rw [h16] at h
    exact h
  have e8 : bits .and .u8 (v : Int) 8 = 0 := by
    have h := u8_and_nat v 8 hv (by decide)
    rw [h8] at h
    exact h
  have e7 : bits .and .u8 (v : Int) 7 = 7 := by
    have h := u8_and_nat v 7 hv (by decide)
    rw [h7] at h
    exact h
  have es : bits .andNot .u8 (d.served : Int) 128 = ((d.served &&& 127 : Nat) : Int) := u8_andNot_nat d.served 128 hok.served (by decide)
  go_enter Try.func94, Try.ntmps94
  go_wp2_with fail
  go_region
  go_wp2_with fail
  go_returns
  refine ⟨rfl, ?_, by (repeat' (first | (with_reducible exact Keeps.refl _ _) | (with_reducible exact hk) | (with_reducible refine Keeps.setOne ?_ _ _) | (with_reducible refine Keeps.alloc ?_ _) | (with_reducible refine Keeps.drew ?_) | (with_reducible refine Keeps.drewN ?_ _)))⟩
  unfold Pair Chip.cells at H ⊢
  simp only [List.cons_append, List.nil_append] at H ⊢
  (first | (simp only [heap_set_map, putObj_cells, H, Option.map_some, List.set_cons_succ, List.set_cons_zero, heap_drewN, heap_drew]; done) | (simp only [heap_set_map, putObj_cells, H, Option.map_some, List.set_cons_succ, List.set_cons_zero, heap_drewN, heap_drew]; rfl))

set_option maxHeartbeats 2000000 in
theorem on_d (b k : Nat) (c d : Chip) (hok : d.ok) (v : Nat) (hv : v < 256) (h16 : v &&& 16 = 0) (h8 : v &&& 8 = 0) (h5 : v / 32 ≠ 1) (h6 : v / 32 ≠ 3) (w : World) (H : Pair w b c d) (kv : w.cell? ⟨k, 0, none⟩ = some (.int .u8 v)) (hkb : k ≠ b) :
    Calls Try.prog 94 #[.pointer (some ⟨b, 10, none⟩), .bool true, .pointer (some ⟨k, 0, none⟩)] w fun r w' => r = .returned (.tuple #[]) ∧ Pair w' b c (d) ∧ Keeps (· = b) w w' := by
  obtain ⟨k0, k1, k2, k3, k4, k5, k6, k7, k8, k9, k10, k11, k12, k13, k14, k15, k16, k17, k18, k19, kf, klt⟩ := H.facts
  have e16 : bits .and .u8 (v : Int) 16 = 0 := by
    have h := u8_and_nat v 16 hv (by decide)
    rw [h16] at h
    exact h
  have e8 : bits .and .u8 (v : Int) 8 = 0 := by
    have h := u8_and_nat v 8 hv (by decide)
    rw [h8] at h
    exact h
  go_enter Try.func94, Try.ntmps94
  go_wp2_with fail
  go_returns
  exact ⟨rfl, H, Keeps.refl _ _⟩

set_option maxHeartbeats 2000000 in
theorem d0_d (b k : Nat) (c d : Chip) (hok : d.ok) (v : Nat) (hv : v < 256) (h0 : d.stage = 0) (w : World) (H : Pair w b c d) (kv : w.cell? ⟨k, 0, none⟩ = some (.int .u8 v)) (hkb : k ≠ b) :
    Calls Try.prog 94 #[.pointer (some ⟨b, 10, none⟩), .bool false, .pointer (some ⟨k, 0, none⟩)] w fun r w' => r = .returned (.tuple #[]) ∧ Pair w' b c ({ d with masked := v }) ∧ Keeps (· = b) w w' := by
  obtain ⟨k0, k1, k2, k3, k4, k5, k6, k7, k8, k9, k10, k11, k12, k13, k14, k15, k16, k17, k18, k19, kf, klt⟩ := H.facts
  rw [h0] at k17
  replace k17 : w.cell? ⟨b, 17, none⟩ = some (.int .i64 0) := k17
  go_enter Try.func94, Try.ntmps94
  go_wp2_with fail
  go_returns
  refine ⟨rfl, ?_, by (repeat' (first | (with_reducible exact Keeps.refl _ _) | (with_reducible exact hk) | (with_reducible refine Keeps.setOne ?_ _ _) | (with_reducible refine Keeps.alloc ?_ _) | (with_reducible refine Keeps.drew ?_) | (with_reducible refine Keeps.drewN ?_ _)))⟩
  unfold Pair Chip.cells at H ⊢
  simp only [List.cons_append, List.nil_append] at H ⊢
  (first | (simp only [heap_set_map, putObj_cells, H, Option.map_some, List.set_cons_succ, List.set_cons_zero, heap_drewN, heap_drew]; done) | (simp only [heap_set_map, putObj_cells, H, Option.map_some, List.set_cons_succ, List.set_cons_zero, heap_drewN, heap_drew]; rfl))

set_option maxHeartbeats 2000000 in
theorem d1_d (b k : Nat) (c d : Chip) (hok : d.ok) (v : Nat) (hv : v < 256) (h0 : d.stage = 1)  (w : World) (H : Pair w b c d) (kv : w.cell? ⟨k, 0, none⟩ = some (.int .u8 v)) (hkb : k ≠ b) :
    Calls Try.prog 94 #[.pointer (some ⟨b, 10, none⟩), .bool false, .pointer (some ⟨k, 0, none⟩)] w fun r w' => r = .returned (.tuple #[]) ∧ Pair w' b c (onC ({ d with base := v &&& 248 })) ∧ Keeps (· = b) w w' := by
  obtain ⟨k0, k1, k2, k3, k4, k5, k6, k7, k8, k9, k10, k11, k12, k13, k14, k15, k16, k17, k18, k19, kf, klt⟩ := H.facts
  have hst : d.stage = 1 := h0
  rw [h0] at k17
  replace k17 : w.cell? ⟨b, 17, none⟩ = some (.int .i64 1) := k17
  have ea : bits .andNot .u8 (v : Int) 7 = ((v &&& 248 : Nat) : Int) := u8_andNot_nat v 7 hv (by decide)
  go_enter Try.func94, Try.ntmps94
  go_wp2_with fail
  have H1 : ∀ X, X = w.setCell ⟨b, 14, none⟩ (.int .u8 (v &&& 248 : Nat)) → Pair X b c ({ d with base := v &&& 248 }) := by
    rintro X rfl
    unfold Pair Chip.cells at H ⊢
    simp only [List.cons_append, List.nil_append] at H ⊢
    (first | (simp only [heap_set_map, putObj_cells, H, Option.map_some, List.set_cons_succ, List.set_cons_zero, heap_drewN, heap_drew]; done) | (simp only [heap_set_map, putObj_cells, H, Option.map_some, List.set_cons_succ, List.set_cons_zero, heap_drewN, heap_drew]; rfl))
  refine (onward_d b c ({ d with base := v &&& 248 }) (by show d.stage ≠ 0; rw [hst]; decide) (by show d.stage < 4; rw [hst]; decide) _ (H1 _ rfl)).mono ?_
  rintro r w1 ⟨rfl, H2, hk⟩
  go_wp2_with fail
  go_returns
  exact ⟨rfl, H2, Keeps.trans ((Keeps.refl _ _).setOne _ _) hk⟩

set_option maxHeartbeats 2000000 in
theorem d2_d (b k : Nat) (c d : Chip) (hok : d.ok) (v : Nat) (hv : v < 256) (h0 : d.stage = 2)  (w : World) (H : Pair w b c d) (kv : w.cell? ⟨k, 0, none⟩ = some (.int .u8 v)) (hkb : k ≠ b) :
    Calls Try.prog 94 #[.pointer (some ⟨b, 10, none⟩), .bool false, .pointer (some ⟨k, 0, none⟩)] w fun r w' => r = .returned (.tuple #[]) ∧ Pair w' b c (onC (d)) ∧ Keeps (· = b) w w' := by
  obtain ⟨k0, k1, k2, k3, k4, k5, k6, k7, k8, k9, k10, k11, k12, k13, k14, k15, k16, k17, k18, k19, kf, klt⟩ := H.facts
  have hst : d.stage = 2 := h0
  rw [h0] at k17
  replace k17 : w.cell? ⟨b, 17, none⟩ = some (.int .i64 2) := k17
  go_enter Try.func94, Try.ntmps94
  go_wp2_with fail
  refine (onward_d b c (d) (by show d.stage ≠ 0; rw [hst]; decide) (by show d.stage < 4; rw [hst]; decide) w H).mono ?_
  rintro r w1 ⟨rfl, H2, hk⟩
  go_wp2_with fail
  go_returns
  exact ⟨rfl, H2, hk⟩

set_option maxHeartbeats 2000000 in
theorem d3_0_d (b k : Nat) (c d : Chip) (hok : d.ok) (v : Nat) (hv : v < 256) (h0 : d.stage = 3) (h2 : v &&& 2 = 0) (w : World) (H : Pair w b c d) (kv : w.cell? ⟨k, 0, none⟩ = some (.int .u8 v)) (hkb : k ≠ b) :
    Calls Try.prog 94 #[.pointer (some ⟨b, 10, none⟩), .bool false, .pointer (some ⟨k, 0, none⟩)] w fun r w' => r = .returned (.tuple #[]) ∧ Pair w' b c (onC ({ d with ends := false })) ∧ Keeps (· = b) w w' := by
  obtain ⟨k0, k1, k2, k3, k4, k5, k6, k7, k8, k9, k10, k11, k12, k13, k14, k15, k16, k17, k18, k19, kf, klt⟩ := H.facts
  have hst : d.stage = 3 := h0
  rw [h0] at k17
  replace k17 : w.cell? ⟨b, 17, none⟩ = some (.int .i64 3) := k17
  have e2 : bits .and .u8 (v : Int) 2 = 0 := by
    have h := u8_and_nat v 2 hv (by decide)
    rw [h2] at h
    exact h
  go_enter Try.func94, Try.ntmps94
  go_wp2_with fail
  have H1 : ∀ X, X = w.setCell ⟨b, 16, none⟩ (.bool false) → Pair X b c ({ d with ends := false }) := by
    rintro X rfl
    unfold Pair Chip.cells at H ⊢
    simp only [List.cons_append, List.nil_append] at H ⊢
    (first | (simp only [heap_set_map, putObj_cells, H, Option.map_some, List.set_cons_succ, List.set_cons_zero, heap_drewN, heap_drew]; done) | (simp only [heap_set_map, putObj_cells, H, Option.map_some, List.set_cons_succ, List.set_cons_zero, heap_drewN, heap_drew]; rfl))
  refine (onward_d b c ({ d with ends := false }) (by show d.stage ≠ 0; rw [hst]; decide) (by show d.stage < 4; rw [hst]; decide) _ (H1 _ rfl)).mono ?_
  rintro r w1 ⟨rfl, H2, hk⟩
  go_wp2_with fail
  go_returns
  exact ⟨rfl, H2, Keeps.trans ((Keeps.refl _ _).setOne _ _) hk⟩

set_option maxHeartbeats 2000000 in
theorem d3_1_d (b k : Nat) (c d : Chip) (hok : d.ok) (v : Nat) (hv : v < 256) (h0 : d.stage = 3) (h2 : v &&& 2 = 2) (w : World) (H : Pair w b c d) (kv : w.cell? ⟨k, 0, none⟩ = some (.int .u8 v)) (hkb : k ≠ b) :
    Calls Try.prog 94 #[.pointer (some ⟨b, 10, none⟩), .bool false, .pointer (some ⟨k, 0, none⟩)] w fun r w' => r = .returned (.tuple #[]) ∧ Pair w' b c (onC ({ d with ends := true })) ∧ Keeps (· = b) w w' := by
  obtain ⟨k0, k1, k2, k3, k4, k5, k6, k7, k8, k9, k10, k11, k12, k13, k14, k15, k16, k17, k18, k19, kf, klt⟩ := H.facts
  have hst : d.stage = 3 := h0
  rw [h0] at k17
  replace k17 : w.cell? ⟨b, 17, none⟩ = some (.int .i64 3) := k17
  have e2 : bits .and .u8 (v : Int) 2 = 2 := by
    have h := u8_and_nat v 2 hv (by decide)
    rw [h2] at h
    exact h
  go_enter Try.func94, Try.ntmps94
  go_wp2_with fail
  have H1 : ∀ X, X = w.setCell ⟨b, 16, none⟩ (.bool true) → Pair X b c ({ d with ends := true }) := by
    rintro X rfl
    unfold Pair Chip.cells at H ⊢
    simp only [List.cons_append, List.nil_append] at H ⊢
    (first | (simp only [heap_set_map, putObj_cells, H, Option.map_some, List.set_cons_succ, List.set_cons_zero, heap_drewN, heap_drew]; done) | (simp only [heap_set_map, putObj_cells, H, Option.map_some, List.set_cons_succ, List.set_cons_zero, heap_drewN, heap_drew]; rfl))
  refine (onward_d b c ({ d with ends := true }) (by show d.stage ≠ 0; rw [hst]; decide) (by show d.stage < 4; rw [hst]; decide) _ (H1 _ rfl)).mono ?_
  rintro r w1 ⟨rfl, H2, hk⟩
  go_wp2_with fail
  go_returns
  exact ⟨rfl, H2, Keeps.trans ((Keeps.refl _ _).setOne _ _) hk⟩

theorem out1_d (b k : Nat) (c d : Chip) (hok : d.ok) (command : Bool) (v : Nat) (hv : v < 256) (w : World) (H : Pair w b c d) (kv : w.cell? ⟨k, 0, none⟩ = some (.int .u8 v)) (hkb : k ≠ b) :
    Calls Try.prog 94 #[.pointer (some ⟨b, 10, none⟩), .bool command, .pointer (some ⟨k, 0, none⟩)] w fun r w' => r = .returned (.tuple #[]) ∧ Pair w' b c (outC d command v) ∧ Keeps (· = b) w w' := by
  have a1 := and_bit v 1 (by decide) hv
  have a2 := and_bit v 2 (by decide) hv
  have a8 := and_bit v 8 (by decide) hv
  have a16 := and_bit v 16 (by decide) hv
  cases command
  · by_cases h0 : d.stage = 0
    · have E : outC d false v = { d with masked := v } := by unfold outC; rw [if_neg (by decide), if_pos h0]
      rw [E]
      exact d0_d b k c d hok v hv h0 w H kv hkb
    · have h4 := hok.stage
      obtain h1 | h1 | h1 : d.stage = 1 ∨ d.stage = 2 ∨ d.stage = 3 := by omega
      · have E : outC d false v = onC { d with base := v &&& 248 } := by unfold outC; rw [if_neg (by decide), if_neg h0, if_pos h1]
        rw [E]
        exact d1_d b k c d hok v hv h1 w H kv hkb
      · have E : outC d false v = onC d := by unfold outC; rw [if_neg (by decide), if_neg h0, if_neg (by omega), if_neg (by omega)]
        rw [E]
        exact d2_d b k c d hok v hv h1 w H kv hkb
      · rcases a2 with a2 | a2
        · have E : outC d false v = onC { d with ends := false } := by unfold outC bit; rw [if_neg (by decide), if_neg h0, if_neg (by omega), if_pos h1, a2]; rfl
          rw [E]
          exact d3_0_d b k c d hok v hv h1 a2 w H kv hkb
        · have E : outC d false v = onC { d with ends := true } := by unfold outC bit; rw [if_neg (by decide), if_neg h0, if_neg (by omega), if_pos h1, a2]; rfl
          rw [E]
          exact d3_1_d b k c d hok v hv h1 a2 w H kv hkb
  · rcases a16 with a16 | a16
    · have b16 : bit v 16 = false := by unfold bit; rw [a16]; rfl
      rcases a8 with a8 | a8
      · have b8 : bit v 8 = false := by unfold bit; rw [a8]; rfl
        by_cases h1 : v / 32 = 1
        · have E : outC d true v = { d with served := d.served &&& ((d.served + 255) % 256) } := by unfold outC; rw [if_pos rfl, b16, b8, if_neg (by decide), if_neg (by decide), if_pos h1]
          rw [E]
          by_cases hz : d.served = 0
          · have E2 : d.served &&& ((d.served + 255) % 256) = 0 := by rw [hz]; rfl
            rw [E2]
            exact o1z_d b k c d hok v hv a16 a8 h1 hz w H kv hkb
          · exact o1_d b k c d hok v hv a16 a8 h1 (by omega) w H kv hkb
        · by_cases h3 : v / 32 = 3
          · have key : ∀ i, v &&& 7 = i → i < 8 → Calls Try.prog 94 #[.pointer (some ⟨b, 10, none⟩), .bool true, .pointer (some ⟨k, 0, none⟩)] w fun r w' => r = .returned (.tuple #[]) ∧ Pair w' b c { d with served := d.served &&& (255 - 2 ^ i) } ∧ Keeps (· = b) w w' := by
              intro i h7 hi
              obtain rfl | rfl | rfl | rfl | rfl | rfl | rfl | rfl : i = 0 ∨ i = 1 ∨ i = 2 ∨ i = 3 ∨ i = 4 ∨ i = 5 ∨ i = 6 ∨ i = 7 := by omega
              · exact o3_0_d b k c d hok v hv a16 a8 h3 h7 w H kv hkb
              · exact o3_1_d b k c d hok v hv a16 a8 h3 h7 w H kv hkb
              · exact o3_2_d b k c d hok v hv a16 a8 h3 h7 w H kv hkb
              · exact o3_3_d b k c d hok v hv a16 a8 h3 h7 w H kv hkb
              · exact o3_4_d b k c d hok v hv a16 a8 h3 h7 w H kv hkb
              · exact o3_5_d b k c d hok v hv a16 a8 h3 h7 w H kv hkb
              · exact o3_6_d b k c d hok v hv a16 a8 h3 h7 w H kv hkb
              · exact o3_7_d b k c d hok v hv a16 a8 h3 h7 w H kv hkb
            have E : outC d true v = { d with served := d.served &&& (255 - 2 ^ (v &&& 7)) } := by unfold outC; rw [if_pos rfl, b16, b8, if_neg (by decide), if_neg (by decide), if_neg h1, if_pos h3]
            rw [E]
            exact key _ rfl (Nat.lt_of_le_of_lt Nat.and_le_right (by decide))
          · have E : outC d true v = d := by unfold outC; rw [if_pos rfl, b16, b8, if_neg (by decide), if_neg (by decide), if_neg h1, if_neg h3]
            rw [E]
            exact on_d b k c d hok v hv a16 a8 h1 h3 w H kv hkb
      · have b8 : bit v 8 = true := by unfold bit; rw [a8]; rfl
        rcases a2 with a2 | a2
        · have E : outC d true v = d := by unfold outC; rw [if_pos rfl, b16, b8, if_neg (by decide), if_pos rfl]; unfold bit; rw [a2]; rfl
          rw [E]
          exact o8_n_d b k c d hok v hv a16 a8 a2 w H kv hkb
        · rcases a1 with a1 | a1
          · have E : outC d true v = { d with told := false } := by unfold outC; rw [if_pos rfl, b16, b8, if_neg (by decide), if_pos rfl]; unfold bit; rw [a2, a1]; rfl
            rw [E]
            exact o8_0_d b k c d hok v hv a16 a8 a2 a1 w H kv hkb
          · have E : outC d true v = { d with told := true } := by unfold outC; rw [if_pos rfl, b16, b8, if_neg (by decide), if_pos rfl]; unfold bit; rw [a2, a1]; rfl
            rw [E]
            exact o8_1_d b k c d hok v hv a16 a8 a2 a1 w H kv hkb
    · have b16 : bit v 16 = true := by unfold bit; rw [a16]; rfl
      have E : outC d true v = Chip.mk 0 0 0 d.up d.base false false 1 (!bit v 2) (bit v 1) := by unfold outC; rw [if_pos rfl, b16, if_pos rfl]
      rw [E]
      unfold bit
      rcases a2 with a2 | a2
      · rcases a1 with a1 | a1
        · rw [a2, a1]
          exact o16_00_d b k c d hok v hv a16 a2 a1 w H kv hkb
        · rw [a2, a1]
          exact o16_01_d b k c d hok v hv a16 a2 a1 w H kv hkb
      · rcases a1 with a1 | a1
        · rw [a2, a1]
          exact o16_10_d b k c d hok v hv a16 a2 a1 w H kv hkb
        · rw [a2, a1]
          exact o16_11_d b k c d hok v hv a16 a2 a1 w H kv hkb
end Go.Proofs.Ytojmpdddfnkffaa.Pic

/- pic: with; Out; In; New. -/
namespace Go.Proofs.Ytojmpdddfnkffaa.Pic
open Go.RowKit
set_option linter.unusedVariables false
set_option linter.unusedSimpArgs false

theorem cfOut (args : Array Value) (w : World) : (callFunc 94 args).run Try.prog w = .ok (Next.enter 94 args) w := by kernel_rfl
theorem cfIn (args : Array Value) (w : World) : (callFunc 96 args).run Try.prog w = .ok (Next.enter 96 args) w := by kernel_rfl

set_option maxHeartbeats 1000000 in
theorem with_out_0 (b k : Nat) (c d : Chip) (hok : c.ok) (v : Nat) (hv : v < 256) (w : World) (H : Pair w b c d) (kv : w.cell? ⟨k, 0, none⟩ = some (.int .u8 v)) (hkb : k ≠ b) :
    Calls Try.prog 93 #[.pointer (some ⟨b, 0, none⟩), .int .i64 0, .func (.func 94) #[] #[.pointer (some ⟨k, 0, none⟩)]] w fun r w' => r = .returned (.int .i64 0) ∧ Pair w' b (outC c true v) d ∧ Keeps (· = b) w w' := by
  have hcf := cfOut
  have kf := H.facts.2.2.2.2.2.2.2.2.2.2.2.2.2.2.2.2.2.2.2.2.1
  have hx := out1_c b k c d hok true v hv w H kv hkb
  have HX := Lib.hid hx
  clear hx
  go_enter Try.func93, Try.ntmps93
  go_wp2_with fail
  refine HX.out.mono ?_
  rintro r w1 ⟨rfl, H1, hk⟩
  go_wp2_with fail
  go_returns
  exact ⟨rfl, H1, hk⟩

set_option maxHeartbeats 1000000 in
theorem with_out_1 (b k : Nat) (c d : Chip) (hok : c.ok) (v : Nat) (hv : v < 256) (w : World) (H : Pair w b c d) (kv : w.cell? ⟨k, 0, none⟩ = some (.int .u8 v)) (hkb : k ≠ b) :
    Calls Try.prog 93 #[.pointer (some ⟨b, 0, none⟩), .int .i64 1, .func (.func 94) #[] #[.pointer (some ⟨k, 0, none⟩)]] w fun r w' => r = .returned (.int .i64 0) ∧ Pair w' b (outC c false v) d ∧ Keeps (· = b) w w' := by
  have hcf := cfOut
  have kf := H.facts.2.2.2.2.2.2.2.2.2.2.2.2.2.2.2.2.2.2.2.2.1
  have hx := out1_c b k c d hok false v hv w H kv hkb
  have HX := Lib.hid hx
  clear hx
  go_enter Try.func93, Try.ntmps93
  go_wp2_with fail
  refine HX.out.mono ?_
  rintro r w1 ⟨rfl, H1, hk⟩
  go_wp2_with fail
  go_returns
  exact ⟨rfl, H1, hk⟩

set_option maxHeartbeats 1000000 in
theorem with_out_2 (b k : Nat) (c d : Chip) (hok : d.ok) (v : Nat) (hv : v < 256) (w : World) (H : Pair w b c d) (kv : w.cell? ⟨k, 0, none⟩ = some (.int .u8 v)) (hkb : k ≠ b) :
    Calls Try.prog 93 #[.pointer (some ⟨b, 0, none⟩), .int .i64 2, .func (.func 94) #[] #[.pointer (some ⟨k, 0, none⟩)]] w fun r w' => r = .returned (.int .i64 0) ∧ Pair w' b c (outC d true v) ∧ Keeps (· = b) w w' := by
  have hcf := cfOut
  have kf := H.facts.2.2.2.2.2.2.2.2.2.2.2.2.2.2.2.2.2.2.2.2.1
  have hx := out1_d b k c d hok true v hv w H kv hkb
  have HX := Lib.hid hx
  clear hx
  go_enter Try.func93, Try.ntmps93
  go_wp2_with fail
  refine HX.out.mono ?_
  rintro r w1 ⟨rfl, H1, hk⟩
  go_wp2_with fail
  go_returns
  exact ⟨rfl, H1, hk⟩

set_option maxHeartbeats 1000000 in
theorem with_out_3 (b k : Nat) (c d : Chip) (hok : d.ok) (v : Nat) (hv : v < 256) (w : World) (H : Pair w b c d) (kv : w.cell? ⟨k, 0, none⟩ = some (.int .u8 v)) (hkb : k ≠ b) :
    Calls Try.prog 93 #[.pointer (some ⟨b, 0, none⟩), .int .i64 3, .func (.func 94) #[] #[.pointer (some ⟨k, 0, none⟩)]] w fun r w' => r = .returned (.int .i64 0) ∧ Pair w' b c (outC d false v) ∧ Keeps (· = b) w w' := by
  have hcf := cfOut
  have kf := H.facts.2.2.2.2.2.2.2.2.2.2.2.2.2.2.2.2.2.2.2.2.1
  have hx := out1_d b k c d hok false v hv w H kv hkb
  have HX := Lib.hid hx
  clear hx
  go_enter Try.func93, Try.ntmps93
  go_wp2_with fail
  refine HX.out.mono ?_
  rintro r w1 ⟨rfl, H1, hk⟩
  go_wp2_with fail
  go_returns
  exact ⟨rfl, H1, hk⟩

/-- A port is one of four. -/
def portGood (n : Int) : Bool := decide (0 ≤ n) && decide (n ≤ 3)
/-- The answer of a call on a port. -/
def perr (n : Int) : Int := if portGood n then 0 else 1
theorem perr_bad {n : Int} (h : portGood n = false) : perr n = 1 := by unfold perr; rw [h]; rfl
set_option maxHeartbeats 1000000 in
theorem with_bad (b : Nat) (f : Value) (n : Int) (h : n < 0 ∨ 3 < n) (w : World) :
    Calls Try.prog 93 #[.pointer (some ⟨b, 0, none⟩), .int .i64 n, f] w fun r w' => r = .returned (.int .i64 1) ∧ w = w' := by
  rcases h with h | h
  all_goals
    go_enter Try.func93, Try.ntmps93
    go_wp2_with fail
    go_returns
    exact ⟨rfl, rfl⟩
theorem with_nil (f : Value) (n : Int) (w : World) :
    Calls Try.prog 93 #[.pointer none, .int .i64 n, f] w fun r w' => r = .returned (.int .i64 1) ∧ w = w' := by
  go_enter Try.func93, Try.ntmps93
  go_wp2_with fail
  go_returns
  exact ⟨rfl, rfl⟩

def otc (c : Chip) (n : Int) (v : Nat) : Chip := if n = 0 then outC c true v else if n = 1 then outC c false v else c
def otd (d : Chip) (n : Int) (v : Nat) : Chip := if n = 2 then outC d true v else if n = 3 then outC d false v else d

theorem with_out (b k : Nat) (c d : Chip) (hc : c.ok) (hd : d.ok) (n : Int) (v : Nat) (hv : v < 256) (w : World) (H : Pair w b c d) (kv : w.cell? ⟨k, 0, none⟩ = some (.int .u8 v)) (hkb : k ≠ b) :
    Calls Try.prog 93 #[.pointer (some ⟨b, 0, none⟩), .int .i64 n, .func (.func 94) #[] #[.pointer (some ⟨k, 0, none⟩)]] w fun r w' => r = .returned (.int .i64 (perr n)) ∧ Pair w' b (otc c n v) (otd d n v) ∧ Keeps (· = b) w w' := by
  by_cases hn : 0 ≤ n ∧ n ≤ 3
  · obtain rfl | rfl | rfl | rfl : n = 0 ∨ n = 1 ∨ n = 2 ∨ n = 3 := by omega
    · exact with_out_0 b k c d hc v hv w H kv hkb
    · exact with_out_1 b k c d hc v hv w H kv hkb
    · exact with_out_2 b k c d hd v hv w H kv hkb
    · exact with_out_3 b k c d hd v hv w H kv hkb
  · have h0 : portGood n = false := by
      unfold portGood
      rw [← Bool.decide_and]
      exact decide_eq_false hn
    refine (with_bad b _ n (by omega) w).mono ?_
    rintro e w1 ⟨rfl, rfl⟩
    have u1 : otc c n v = c := by unfold otc; rw [if_neg (by omega), if_neg (by omega)]
    have u2 : otd d n v = d := by unfold otd; rw [if_neg (by omega), if_neg (by omega)]
    rw [perr_bad h0, u1, u2]
    exact ⟨rfl, H, Keeps.refl _ _⟩

set_option maxHeartbeats 1000000 in
theorem out_any (b : Nat) (c d : Chip) (hc : c.ok) (hd : d.ok) (n : Int) (v : Nat) (hv : v < 256) (w : World) (H : Pair w b c d) :
    Calls Try.prog 73 #[.pointer (some ⟨b, 0, none⟩), .int .i64 n, .int .u8 v] w fun r w' => r = .returned (.int .i64 (perr n)) ∧ Pair w' b (otc c n v) (otd d n v) ∧ Keeps (· = b) w w' := by
  have hlt := heap_lt H
  go_enter Try.func73, Try.ntmps73
  go_wp2_with fail
  refine (with_out b w.heap.size c d hc hd n v hv _ (heap_alloc_lt H) (by rw [cell_at (heap_new w (.cells #[.int .u8 v] _))]; rfl) (by omega)).mono ?_
  rintro r w1 ⟨rfl, H1, hk⟩
  go_wp2_with fail
  go_returns
  exact ⟨rfl, H1, Keeps.trans ((Keeps.refl _ _).alloc _) hk⟩
set_option maxHeartbeats 1000000 in
theorem out_nil (n v : Int) (w : World) :
    Calls Try.prog 73 #[.pointer none, .int .i64 n, .int .u8 v] w fun r w' => r = .returned (.int .i64 1) ∧ Below w.heap.size w w' := by
  go_enter Try.func73, Try.ntmps73
  go_wp2_with fail
  refine (with_nil _ n _).mono ?_
  rintro r w1 ⟨rfl, rfl⟩
  go_wp2_with fail
  go_returns
  exact ⟨rfl, by go_grown⟩
end Go.Proofs.Ytojmpdddfnkffaa.Pic

/- pic: In; New. -/
namespace Go.Proofs.Ytojmpdddfnkffaa.Pic
open Go.RowKit
set_option linter.unusedVariables false
set_option linter.unusedSimpArgs false

/-- What is read at a chip's ports. -/
def inv0 (c : Chip) (a : Nat) : Nat := if c.told then c.served else a

set_option maxHeartbeats 1000000 in
theorem in1_0 (b ko kp kn : Nat) (T T1 T2 : Nat) (c d : Chip) (hc : c.ok) (hd : d.ok) (w : World) (H : Pair w b c d) (hko : w.heap[ko]? = some (.cells #[.int .u8 0] T)) (hkp : w.heap[kp]? = some (.cells #[.pointer (some ⟨b, 0, none⟩)] T1)) (hkn : w.heap[kn]? = some (.cells #[.int .i64 0] T2)) (n1 : b ≠ ko) (n2 : kp ≠ ko) (n3 : kn ≠ ko) :
    Calls Try.prog 96 #[.pointer (some ⟨b, 0, none⟩), .bool true, .pointer (some ⟨ko, 0, none⟩), .pointer (some ⟨kp, 0, none⟩), .pointer (some ⟨kn, 0, none⟩)] w fun r w' => r = .returned (.tuple #[]) ∧ w'.heap[ko]? = some (.cells #[.int .u8 (inv0 c (ask0 c d) : Nat)] T) ∧ Keeps (· = ko) w w' := by
  obtain ⟨k0, k1, k2, k3, k4, k5, k6, k7, k8, k9, k10, k11, k12, k13, k14, k15, k16, k17, k18, k19, kf, klt⟩ := H.facts
  have c0 : w.cell? ⟨ko, 0, none⟩ = some (.int .u8 0) := by rw [cell_at hko]; rfl
  have c1 : w.cell? ⟨kp, 0, none⟩ = some (.pointer (some ⟨b, 0, none⟩)) := by rw [cell_at hkp]; rfl
  have c2 : w.cell? ⟨kn, 0, none⟩ = some (.int .i64 0) := by rw [cell_at hkn]; rfl
  have f0 : ∀ k, w.frozen? ⟨ko, k, none⟩ = false := fun k => free_at hko
  have HC := Lib.hid hc
  have HD := Lib.hid hd
  clear hc hd
  cases ht : c.told
  all_goals
    have HT := Lib.hid ht
    go_enter Try.func96, Try.ntmps96
    go_wp2_with fail
    try
      refine (asking0_any b c d HC.out HD.out w H).mono ?_
      rintro r w1 ⟨rfl, n, rfl⟩
      go_wp2_with fail
    go_returns
    refine ⟨rfl, ?_, by (repeat' (first | (with_reducible exact Keeps.refl _ _) | (with_reducible exact hk) | (with_reducible refine Keeps.setOne ?_ _ _) | (with_reducible refine Keeps.alloc ?_ _) | (with_reducible refine Keeps.drew ?_) | (with_reducible refine Keeps.drewN ?_ _)))⟩
    try unfold inv0
    (first | (simp only [heap_set_map, putObj_cells, hko, Option.map_some, List.set_cons_succ, List.set_cons_zero, heap_drewN, heap_drew]; done) | (simp only [heap_set_map, putObj_cells, hko, Option.map_some, List.set_cons_succ, List.set_cons_zero, heap_drewN, heap_drew]; rfl) | (simp only [heap_set_map, putObj_cells, hko, Option.map_some, List.set_cons_succ, List.set_cons_zero, heap_drewN, heap_drew, ht]; rfl))

set_option maxHeartbeats 1000000 in
theorem with_in_0 (b ko kp kn : Nat) (T T1 T2 : Nat) (c d : Chip) (hc : c.ok) (hd : d.ok) (w : World) (H : Pair w b c d) (hko : w.heap[ko]? = some (.cells #[.int .u8 0] T)) (hkp : w.heap[kp]? = some (.cells #[.pointer (some ⟨b, 0, none⟩)] T1)) (hkn : w.heap[kn]? = some (.cells #[.int .i64 0] T2)) (n1 : b ≠ ko) (n2 : kp ≠ ko) (n3 : kn ≠ ko) :
    Calls Try.prog 93 #[.pointer (some ⟨b, 0, none⟩), .int .i64 0, .func (.func 96) #[] #[.pointer (some ⟨ko, 0, none⟩), .pointer (some ⟨kp, 0, none⟩), .pointer (some ⟨kn, 0, none⟩)]] w fun r w' => r = .returned (.int .i64 0) ∧ w'.heap[ko]? = some (.cells #[.int .u8 (inv0 c (ask0 c d) : Nat)] T) ∧ Keeps (· = ko) w w' := by
  have hcf := cfIn
  have hx := in1_0 b ko kp kn T T1 T2 c d hc hd w H hko hkp hkn n1 n2 n3
  have HX := Lib.hid hx
  clear hx
  go_enter Try.func93, Try.ntmps93
  go_wp2_with fail
  refine HX.out.mono ?_
  rintro r w1 ⟨rfl, H1, hk⟩
  go_wp2_with fail
  go_returns
  exact ⟨rfl, H1, hk⟩

set_option maxHeartbeats 1000000 in
theorem in1_1 (b ko kp kn : Nat) (T T1 T2 : Nat) (c d : Chip) (hc : c.ok) (hd : d.ok) (w : World) (H : Pair w b c d) (hko : w.heap[ko]? = some (.cells #[.int .u8 0] T)) (hkp : w.heap[kp]? = some (.cells #[.pointer (some ⟨b, 0, none⟩)] T1)) (hkn : w.heap[kn]? = some (.cells #[.int .i64 1] T2)) (n1 : b ≠ ko) (n2 : kp ≠ ko) (n3 : kn ≠ ko) :
    Calls Try.prog 96 #[.pointer (some ⟨b, 0, none⟩), .bool false, .pointer (some ⟨ko, 0, none⟩), .pointer (some ⟨kp, 0, none⟩), .pointer (some ⟨kn, 0, none⟩)] w fun r w' => r = .returned (.tuple #[]) ∧ w'.heap[ko]? = some (.cells #[.int .u8 (c.masked : Nat)] T) ∧ Keeps (· = ko) w w' := by
  obtain ⟨k0, k1, k2, k3, k4, k5, k6, k7, k8, k9, k10, k11, k12, k13, k14, k15, k16, k17, k18, k19, kf, klt⟩ := H.facts
  have c0 : w.cell? ⟨ko, 0, none⟩ = some (.int .u8 0) := by rw [cell_at hko]; rfl
  have c1 : w.cell? ⟨kp, 0, none⟩ = some (.pointer (some ⟨b, 0, none⟩)) := by rw [cell_at hkp]; rfl
  have c2 : w.cell? ⟨kn, 0, none⟩ = some (.int .i64 1) := by rw [cell_at hkn]; rfl
  have f0 : ∀ k, w.frozen? ⟨ko, k, none⟩ = false := fun k => free_at hko
  have HC := Lib.hid hc
  have HD := Lib.hid hd
  clear hc hd
  cases ht : c.told
  all_goals
    have HT := Lib.hid ht
    go_enter Try.func96, Try.ntmps96
    go_wp2_with fail
    go_returns
    refine ⟨rfl, ?_, by (repeat' (first | (with_reducible exact Keeps.refl _ _) | (with_reducible exact hk) | (with_reducible refine Keeps.setOne ?_ _ _) | (with_reducible refine Keeps.alloc ?_ _) | (with_reducible refine Keeps.drew ?_) | (with_reducible refine Keeps.drewN ?_ _)))⟩
    try unfold inv0
    (first | (simp only [heap_set_map, putObj_cells, hko, Option.map_some, List.set_cons_succ, List.set_cons_zero, heap_drewN, heap_drew]; done) | (simp only [heap_set_map, putObj_cells, hko, Option.map_some, List.set_cons_succ, List.set_cons_zero, heap_drewN, heap_drew]; rfl) | (simp only [heap_set_map, putObj_cells, hko, Option.map_some, List.set_cons_succ, List.set_cons_zero, heap_drewN, heap_drew, ht]; rfl))

set_option maxHeartbeats 1000000 in
theorem with_in_1 (b ko kp kn : Nat) (T T1 T2 : Nat) (c d : Chip) (hc : c.ok) (hd : d.ok) (w : World) (H : Pair w b c d) (hko : w.heap[ko]? = some (.cells #[.int .u8 0] T)) (hkp : w.heap[kp]? = some (.cells #[.pointer (some ⟨b, 0, none⟩)] T1)) (hkn : w.heap[kn]? = some (.cells #[.int .i64 1] T2)) (n1 : b ≠ ko) (n2 : kp ≠ ko) (n3 : kn ≠ ko) :
    Calls Try.prog 93 #[.pointer (some ⟨b, 0, none⟩), .int .i64 1, .func (.func 96) #[] #[.pointer (some ⟨ko, 0, none⟩), .pointer (some ⟨kp, 0, none⟩), .pointer (some ⟨kn, 0, none⟩)]] w fun r w' => r = .returned (.int .i64 0) ∧ w'.heap[ko]? = some (.cells #[.int .u8 (c.masked : Nat)] T) ∧ Keeps (· = ko) w w' := by
  have hcf := cfIn
  have hx := in1_1 b ko kp kn T T1 T2 c d hc hd w H hko hkp hkn n1 n2 n3
  have HX := Lib.hid hx
  clear hx
  go_enter Try.func93, Try.ntmps93
  go_wp2_with fail
  refine HX.out.mono ?_
  rintro r w1 ⟨rfl, H1, hk⟩
  go_wp2_with fail
  go_returns
  exact ⟨rfl, H1, hk⟩

set_option maxHeartbeats 1000000 in
theorem in1_2 (b ko kp kn : Nat) (T T1 T2 : Nat) (c d : Chip) (hc : c.ok) (hd : d.ok) (w : World) (H : Pair w b c d) (hko : w.heap[ko]? = some (.cells #[.int .u8 0] T)) (hkp : w.heap[kp]? = some (.cells #[.pointer (some ⟨b, 0, none⟩)] T1)) (hkn : w.heap[kn]? = some (.cells #[.int .i64 2] T2)) (n1 : b ≠ ko) (n2 : kp ≠ ko) (n3 : kn ≠ ko) :
    Calls Try.prog 96 #[.pointer (some ⟨b, 10, none⟩), .bool true, .pointer (some ⟨ko, 0, none⟩), .pointer (some ⟨kp, 0, none⟩), .pointer (some ⟨kn, 0, none⟩)] w fun r w' => r = .returned (.tuple #[]) ∧ w'.heap[ko]? = some (.cells #[.int .u8 (inv0 d d.asks : Nat)] T) ∧ Keeps (· = ko) w w' := by
  obtain ⟨k0, k1, k2, k3, k4, k5, k6, k7, k8, k9, k10, k11, k12, k13, k14, k15, k16, k17, k18, k19, kf, klt⟩ := H.facts
  have c0 : w.cell? ⟨ko, 0, none⟩ = some (.int .u8 0) := by rw [cell_at hko]; rfl
  have c1 : w.cell? ⟨kp, 0, none⟩ = some (.pointer (some ⟨b, 0, none⟩)) := by rw [cell_at hkp]; rfl
  have c2 : w.cell? ⟨kn, 0, none⟩ = some (.int .i64 2) := by rw [cell_at hkn]; rfl
  have f0 : ∀ k, w.frozen? ⟨ko, k, none⟩ = false := fun k => free_at hko
  have HC := Lib.hid hc
  have HD := Lib.hid hd
  clear hc hd
  cases ht : d.told
  all_goals
    have HT := Lib.hid ht
    go_enter Try.func96, Try.ntmps96
    go_wp2_with fail
    try
      refine (asking1_any b c d w H).mono ?_
      rintro r w1 ⟨rfl, rfl⟩
      go_wp2_with fail
    go_returns
    refine ⟨rfl, ?_, by (repeat' (first | (with_reducible exact Keeps.refl _ _) | (with_reducible exact hk) | (with_reducible refine Keeps.setOne ?_ _ _) | (with_reducible refine Keeps.alloc ?_ _) | (with_reducible refine Keeps.drew ?_) | (with_reducible refine Keeps.drewN ?_ _)))⟩
    try unfold inv0
    (first | (simp only [heap_set_map, putObj_cells, hko, Option.map_some, List.set_cons_succ, List.set_cons_zero, heap_drewN, heap_drew]; done) | (simp only [heap_set_map, putObj_cells, hko, Option.map_some, List.set_cons_succ, List.set_cons_zero, heap_drewN, heap_drew]; rfl) | (simp only [heap_set_map, putObj_cells, hko, Option.map_some, List.set_cons_succ, List.set_cons_zero, heap_drewN, heap_drew, ht]; rfl))

set_option maxHeartbeats 1000000 in
theorem with_in_2 (b ko kp kn : Nat) (T T1 T2 : Nat) (c d : Chip) (hc : c.ok) (hd : d.ok) (w : World) (H : Pair w b c d) (hko : w.heap[ko]? = some (.cells #[.int .u8 0] T)) (hkp : w.heap[kp]? = some (.cells #[.pointer (some ⟨b, 0, none⟩)] T1)) (hkn : w.heap[kn]? = some (.cells #[.int .i64 2] T2)) (n1 : b ≠ ko) (n2 : kp ≠ ko) (n3 : kn ≠ ko) :
    Calls Try.prog 93 #[.pointer (some ⟨b, 0, none⟩), .int .i64 2, .func (.func 96) #[] #[.pointer (some ⟨ko, 0, none⟩), .pointer (some ⟨kp, 0, none⟩), .pointer (some ⟨kn, 0, none⟩)]] w fun r w' => r = .returned (.int .i64 0) ∧ w'.heap[ko]? = some (.cells #[.int .u8 (inv0 d d.asks : Nat)] T) ∧ Keeps (· = ko) w w' := by
  have hcf := cfIn
  have hx := in1_2 b ko kp kn T T1 T2 c d hc hd w H hko hkp hkn n1 n2 n3
  have HX := Lib.hid hx
  clear hx
  go_enter Try.func93, Try.ntmps93
  go_wp2_with fail
  refine HX.out.mono ?_
  rintro r w1 ⟨rfl, H1, hk⟩
  go_wp2_with fail
  go_returns
  exact ⟨rfl, H1, hk⟩

set_option maxHeartbeats 1000000 in
theorem in1_3 (b ko kp kn : Nat) (T T1 T2 : Nat) (c d : Chip) (hc : c.ok) (hd : d.ok) (w : World) (H : Pair w b c d) (hko : w.heap[ko]? = some (.cells #[.int .u8 0] T)) (hkp : w.heap[kp]? = some (.cells #[.pointer (some ⟨b, 0, none⟩)] T1)) (hkn : w.heap[kn]? = some (.cells #[.int .i64 3] T2)) (n1 : b ≠ ko) (n2 : kp ≠ ko) (n3 : kn ≠ ko) :
    Calls Try.prog 96 #[.pointer (some ⟨b, 10, none⟩), .bool false, .pointer (some ⟨ko, 0, none⟩), .pointer (some ⟨kp, 0, none⟩), .pointer (some ⟨kn, 0, none⟩)] w fun r w' => r = .returned (.tuple #[]) ∧ w'.heap[ko]? = some (.cells #[.int .u8 (d.masked : Nat)] T) ∧ Keeps (· = ko) w w' := by
  obtain ⟨k0, k1, k2, k3, k4, k5, k6, k7, k8, k9, k10, k11, k12, k13, k14, k15, k16, k17, k18, k19, kf, klt⟩ := H.facts
  have c0 : w.cell? ⟨ko, 0, none⟩ = some (.int .u8 0) := by rw [cell_at hko]; rfl
  have c1 : w.cell? ⟨kp, 0, none⟩ = some (.pointer (some ⟨b, 0, none⟩)) := by rw [cell_at hkp]; rfl
  have c2 : w.cell? ⟨kn, 0, none⟩ = some (.int .i64 3) := by rw [cell_at hkn]; rfl
  have f0 : ∀ k, w.frozen? ⟨ko, k, none⟩ = false := fun k => free_at hko
  have HC := Lib.hid hc
  have HD := Lib.hid hd
  clear hc hd
  cases ht : d.told
  all_goals
    have HT := Lib.hid ht
    go_enter Try.func96, Try.ntmps96
    go_wp2_with fail
    go_returns
    refine ⟨rfl, ?_, by (repeat' (first | (with_reducible exact Keeps.refl _ _) | (with_reducible exact hk) | (with_reducible refine Keeps.setOne ?_ _ _) | (with_reducible refine Keeps.alloc ?_ _) | (with_reducible refine Keeps.drew ?_) | (with_reducible refine Keeps.drewN ?_ _)))⟩
    try unfold inv0
    (first | (simp only [heap_set_map, putObj_cells, hko, Option.map_some, List.set_cons_succ, List.set_cons_zero, heap_drewN, heap_drew]; done) | (simp only [heap_set_map, putObj_cells, hko, Option.map_some, List.set_cons_succ, List.set_cons_zero, heap_drewN, heap_drew]; rfl) | (simp only [heap_set_map, putObj_cells, hko, Option.map_some, List.set_cons_succ, List.set_cons_zero, heap_drewN, heap_drew, ht]; rfl))

set_option maxHeartbeats 1000000 in
theorem with_in_3 (b ko kp kn : Nat) (T T1 T2 : Nat) (c d : Chip) (hc : c.ok) (hd : d.ok) (w : World) (H : Pair w b c d) (hko : w.heap[ko]? = some (.cells #[.int .u8 0] T)) (hkp : w.heap[kp]? = some (.cells #[.pointer (some ⟨b, 0, none⟩)] T1)) (hkn : w.heap[kn]? = some (.cells #[.int .i64 3] T2)) (n1 : b ≠ ko) (n2 : kp ≠ ko) (n3 : kn ≠ ko) :
    Calls Try.prog 93 #[.pointer (some ⟨b, 0, none⟩), .int .i64 3, .func (.func 96) #[] #[.pointer (some ⟨ko, 0, none⟩), .pointer (some ⟨kp, 0, none⟩), .pointer (some ⟨kn, 0, none⟩)]] w fun r w' => r = .returned (.int .i64 0) ∧ w'.heap[ko]? = some (.cells #[.int .u8 (d.masked : Nat)] T) ∧ Keeps (· = ko) w w' := by
  have hcf := cfIn
  have hx := in1_3 b ko kp kn T T1 T2 c d hc hd w H hko hkp hkn n1 n2 n3
  have HX := Lib.hid hx
  clear hx
  go_enter Try.func93, Try.ntmps93
  go_wp2_with fail
  refine HX.out.mono ?_
  rintro r w1 ⟨rfl, H1, hk⟩
  go_wp2_with fail
  go_returns
  exact ⟨rfl, H1, hk⟩

/-- What is read at a port. -/
def inv (c d : Chip) (n : Int) : Nat := if n = 0 then inv0 c (ask0 c d) else if n = 1 then c.masked else if n = 2 then inv0 d d.asks else if n = 3 then d.masked else 0
theorem with_in (b ko kp kn : Nat) (T T1 T2 : Nat) (c d : Chip) (hc : c.ok) (hd : d.ok) (n : Int) (w : World) (H : Pair w b c d) (hko : w.heap[ko]? = some (.cells #[.int .u8 0] T)) (hkp : w.heap[kp]? = some (.cells #[.pointer (some ⟨b, 0, none⟩)] T1)) (hkn : w.heap[kn]? = some (.cells #[.int .i64 n] T2)) (n1 : b ≠ ko) (n2 : kp ≠ ko) (n3 : kn ≠ ko) :
    Calls Try.prog 93 #[.pointer (some ⟨b, 0, none⟩), .int .i64 n, .func (.func 96) #[] #[.pointer (some ⟨ko, 0, none⟩), .pointer (some ⟨kp, 0, none⟩), .pointer (some ⟨kn, 0, none⟩)]] w fun r w' => r = .returned (.int .i64 (perr n)) ∧ w'.heap[ko]? = some (.cells #[.int .u8 (inv c d n : Nat)] T) ∧ Keeps (· = ko) w w' := by
  by_cases hn : 0 ≤ n ∧ n ≤ 3
  · obtain rfl | rfl | rfl | rfl : n = 0 ∨ n = 1 ∨ n = 2 ∨ n = 3 := by omega
    · exact with_in_0 b ko kp kn T T1 T2 c d hc hd w H hko hkp hkn n1 n2 n3
    · exact with_in_1 b ko kp kn T T1 T2 c d hc hd w H hko hkp hkn n1 n2 n3
    · exact with_in_2 b ko kp kn T T1 T2 c d hc hd w H hko hkp hkn n1 n2 n3
    · exact with_in_3 b ko kp kn T T1 T2 c d hc hd w H hko hkp hkn n1 n2 n3
  · have h0 : portGood n = false := by
      unfold portGood
      rw [← Bool.decide_and]
      exact decide_eq_false hn
    refine (with_bad b _ n (by omega) w).mono ?_
    rintro e w1 ⟨rfl, rfl⟩
    have u1 : inv c d n = 0 := by unfold inv; rw [if_neg (by omega), if_neg (by omega), if_neg (by omega), if_neg (by omega)]
    rw [perr_bad h0, u1]
    exact ⟨rfl, hko, Keeps.refl _ _⟩

set_option maxHeartbeats 1000000 in
theorem in_any (b : Nat) (c d : Chip) (hc : c.ok) (hd : d.ok) (n : Int) (w : World) (H : Pair w b c d) :
    Calls Try.prog 74 #[.pointer (some ⟨b, 0, none⟩), .int .i64 n] w fun r w' => r = .returned (.tuple #[.int .u8 (inv c d n : Nat), .int .i64 (perr n)]) ∧ Below w.heap.size w w' := by
  have hlt := heap_lt H
  go_enter Try.func74, Try.ntmps74
  go_wp2_with fail
  have g1 := heap_alloc_lt (o' := .cells #[.int .u8 0] 5) (heap_alloc_lt (o' := .cells #[.int .i64 n] 3) (heap_new w (.cells #[.pointer (some ⟨b, 0, none⟩)] 64)))
  have g2 := heap_alloc_lt (o' := .cells #[.int .u8 0] 5) (heap_new (w.alloc (.cells #[.pointer (some ⟨b, 0, none⟩)] 64)) (.cells #[.int .i64 n] 3))
  have g3 := heap_new ((w.alloc (.cells #[.pointer (some ⟨b, 0, none⟩)] 64)).alloc (.cells #[.int .i64 n] 3)) (.cells #[.int .u8 0] 5)
  simp only [World.size_alloc] at g2 g3
  refine (with_in b (w.heap.size + 1 + 1) w.heap.size (w.heap.size + 1) _ _ _ c d hc hd n _ (heap_alloc_lt (heap_alloc_lt (heap_alloc_lt H))) g3 g1 g2 (by omega) (by omega) (by omega)).mono ?_
  rintro r w1 ⟨rfl, hv, hk⟩
  have cv : w1.cell? ⟨w.heap.size + 1 + 1, 0, none⟩ = some (.int .u8 (inv c d n : Nat)) := by rw [cell_at hv]; rfl
  clear g1 g2 g3 hv
  go_wp2_with fail
  go_ret2
  exact ⟨rfl, Keeps.toBelow (by go_grown) hk (by simp only [World.size_alloc]; omega) (fun i hi => by omega)⟩
set_option maxHeartbeats 1000000 in
theorem in_nil (n : Int) (w : World) :
    Calls Try.prog 74 #[.pointer none, .int .i64 n] w fun r w' => r = .returned (.tuple #[.int .u8 0, .int .i64 1]) ∧ Below w.heap.size w w' := by
  go_enter Try.func74, Try.ntmps74
  go_wp2_with fail
  refine (with_nil _ n _).mono ?_
  rintro r w1 ⟨rfl, rfl⟩
  go_wp2_with fail
  go_ret2
  exact ⟨rfl, by go_grown⟩

/-- The answer of a call on a line. -/
def lerr (n : Int) : Int := if lineGood n then 0 else 1
theorem line_e (b : Nat) (c d : Chip) (hc : c.ok) (hd : d.ok) (n : Int) (up : Bool) (w : World) (H : Pair w b c d) :
    Calls Try.prog 65 #[.pointer (some ⟨b, 0, none⟩), .int .i64 n, .bool up] w fun e w' => e = .returned (.int .i64 (lerr n)) ∧ Pair w' b (lnc c n up) (lnd d n up) ∧ Keeps (· = b) w w' := line_any b c d hc hd n up w H

def chip0 : Chip := Chip.mk 0 0 0 0 0 false false 0 false false
theorem chip0_ok : chip0.ok := ⟨by decide, by decide, by decide, by decide, by decide, by decide⟩
set_option maxHeartbeats 1000000 in
theorem new_any (w : World) : Calls Try.prog 35 #[] w fun e w' => e = .returned (.pointer (some ⟨w.heap.size, 0, none⟩)) ∧ Pair w' w.heap.size chip0 chip0 ∧ Below w.heap.size w w' := by
  go_enter Try.func35, Try.ntmps35
  go_wp2_with fail
  go_returns
  exact ⟨rfl, heap_new w _, by go_grown⟩
end Go.Proofs.Ytojmpdddfnkffaa.Pic

/- pic: setup; awake. -/
namespace Go.Proofs.Ytojmpdddfnkffaa.Pic
open Go.RowKit
set_option linter.unusedVariables false
set_option linter.unusedSimpArgs false

theorem below_drewN {B : Nat} {w a : World} (h : Below B w a) (n : Nat) : Below B w (a.drewN n) := ⟨h.os, h.tape, h.output, h.size, h.block⟩
def setC (b : Nat) : Chip := Chip.mk 0 0 0 0 b false false 0 true true
theorem setC_ok (b : Nat) (hb : b < 256) : (setC b).ok := ⟨by show (0:Nat) < 256; decide, by show (0:Nat) < 256; decide, by show (0:Nat) < 256; decide, by show (0:Nat) < 256; decide, hb, by show (0:Nat) < 4; decide⟩

theorem mk_ok (a s m u bs st : Nat) (t e x y : Bool) (h1 : a < 256) (h2 : s < 256) (h3 : m < 256) (h4 : u < 256) (h5 : bs < 256) (h6 : st < 4) : (Chip.mk a s m u bs t e st x y).ok := ⟨h1, h2, h3, h4, h5, h6⟩

end Go.Proofs.Ytojmpdddfnkffaa.Pic

/- pic: a pair of chips of the call's own, its calls one behind the other; which line is told, by bits. -/
namespace Go.Proofs.Ytojmpdddfnkffaa.Pic
open Go.RowKit
set_option linter.unusedVariables false

theorem scan_lt4 (s : Nat) (a b : Bool) : scan s a b < 4 := by unfold scan; (repeat' split) <;> omega
theorem onC_ok {c : Chip} (h : c.ok) : (onC c).ok := ⟨h.asks, h.served, h.masked, h.up, h.base, scan_lt4 _ _ _⟩
theorem outC_ok {c : Chip} (h : c.ok) (cm : Bool) (v : Nat) (hv : v < 256) : (outC c cm v).ok := by
  unfold outC
  split
  · split
    · exact mk_ok _ _ _ _ _ _ _ _ _ _ (by decide) (by decide) (by decide) h.up h.base (by decide)
    · split
      · split
        · exact ⟨h.asks, h.served, h.masked, h.up, h.base, h.stage⟩
        · exact h
      · split
        · exact ⟨h.asks, Nat.lt_of_le_of_lt Nat.and_le_left h.served, h.masked, h.up, h.base, h.stage⟩
        · split
          · exact ⟨h.asks, Nat.lt_of_le_of_lt Nat.and_le_left h.served, h.masked, h.up, h.base, h.stage⟩
          · exact h
  · split
    · exact ⟨h.asks, h.served, hv, h.up, h.base, h.stage⟩
    · split
      · exact onC_ok ⟨h.asks, h.served, h.masked, h.up, Nat.lt_of_le_of_lt Nat.and_le_left hv, h.stage⟩
      · split
        · exact onC_ok ⟨h.asks, h.served, h.masked, h.up, h.base, h.stage⟩
        · exact onC_ok h
theorem otc_ok {c : Chip} (h : c.ok) (n : Int) (v : Nat) (hv : v < 256) : (otc c n v).ok := by
  unfold otc
  split
  · exact outC_ok h _ _ hv
  · split
    · exact outC_ok h _ _ hv
    · exact h
theorem otd_ok {c : Chip} (h : c.ok) (n : Int) (v : Nat) (hv : v < 256) : (otd c n v).ok := by
  unfold otd
  split
  · exact outC_ok h _ _ hv
  · split
    · exact outC_ok h _ _ hv
    · exact h

/-- A pair of chips that was made behind w0, nothing elder turned since. -/
structure St (w0 w : World) (b : Nat) (c d : Chip) : Prop where
  P : Pair w b c d
  cok : c.ok
  dok : d.ok
  B : Below w0.heap.size w0 w
  lo : w0.heap.size ≤ b
theorem St.keep {w0 w w' : World} {b : Nat} {c d c' d' : Chip} (S : St w0 w b c d) (H : Pair w' b c' d') (hc : c'.ok) (hd : d'.ok) (k : Keeps (· = b) w w') : St w0 w' b c' d' :=
  ⟨H, hc, hd, Keeps.toBelow S.B k S.B.size (fun i hi => by have := S.lo; omega), S.lo⟩
theorem St.drew {w0 w : World} {b : Nat} {c d : Chip} (S : St w0 w b c d) (n : Nat) : St w0 (w.drewN n) b c d := ⟨S.P, S.cok, S.dok, below_drewN S.B n, S.lo⟩
theorem St.drew1 {w0 w : World} {b : Nat} {c d : Chip} (S : St w0 w b c d) : St w0 w.drew b c d := ⟨S.P, S.cok, S.dok, ⟨S.B.os, S.B.tape, S.B.output, S.B.size, S.B.block⟩, S.lo⟩
theorem St.alloc {w0 w : World} {b : Nat} {c d : Chip} (S : St w0 w b c d) (o : Obj) : St w0 (w.alloc o) b c d := ⟨heap_alloc_lt S.P, S.cok, S.dok, S.B.alloc S.B.size _, S.lo⟩
theorem St.of (w0 w : World) (b : Nat) (c d : Chip) (H : Pair w b c d) (hc : c.ok) (hd : d.ok) (B : Below w0.heap.size w0 w) (lo : w0.heap.size ≤ b) : St w0 w b c d := ⟨H, hc, hd, B, lo⟩

theorem out_st {w0 w : World} {b : Nat} {c d : Chip} (S : St w0 w b c d) (n : Int) (v : Nat) (hv : v < 256) :
    Calls Try.prog 73 #[.pointer (some ⟨b, 0, none⟩), .int .i64 n, .int .u8 v] w fun r w' => r = .returned (.int .i64 (perr n)) ∧ St w0 w' b (otc c n v) (otd d n v) :=
  (out_any b c d S.cok S.dok n v hv w S.P).mono fun _ _ ⟨h, H, k⟩ => ⟨h, S.keep H (otc_ok S.cok n v hv) (otd_ok S.dok n v hv) k⟩
theorem out_stv {w0 w : World} {b : Nat} {c d : Chip} (S : St w0 w b c d) (n : Int) (x : Int) (v : Nat) (hx : x = (v : Int)) (hv : v < 256) :
    Calls Try.prog 73 #[.pointer (some ⟨b, 0, none⟩), .int .i64 n, .int .u8 x] w fun r w' => r = .returned (.int .i64 (perr n)) ∧ St w0 w' b (otc c n v) (otd d n v) := by
  rw [hx]; exact out_st S n v hv
theorem line_st {w0 w : World} {b : Nat} {c d : Chip} (S : St w0 w b c d) (n : Int) (up : Bool) :
    Calls Try.prog 65 #[.pointer (some ⟨b, 0, none⟩), .int .i64 n, .bool up] w fun r w' => r = .returned (.int .i64 (lerr n)) ∧ St w0 w' b (lnc c n up) (lnd d n up) :=
  (line_e b c d S.cok S.dok n up w S.P).mono fun _ _ ⟨h, H, k⟩ => ⟨h, S.keep H (lnc_ok S.cok n up) (lnd_ok S.dok n up) k⟩
theorem pending_st {w0 w : World} {b : Nat} {c d : Chip} (S : St w0 w b c d) :
    Calls Try.prog 30 #[.pointer (some ⟨b, 0, none⟩)] w fun r w' => r = .returned (.bool (told0 c d)) ∧ St w0 w' b c d :=
  (pending_any b c d S.cok S.dok w S.P).mono fun _ _ ⟨h, n, k⟩ => ⟨h, by rw [k]; exact S.drew n⟩
theorem ack_st {w0 w : World} {b : Nat} {c d : Chip} (S : St w0 w b c d) :
    Calls Try.prog 31 #[.pointer (some ⟨b, 0, none⟩)] w fun r w' => r = .returned (.int .i64 (vec0 c d : Nat)) ∧ St w0 w' b (tkc c d) (tkd c d) :=
  (ack_any b c d S.cok S.dok w S.P).mono fun _ _ ⟨h, H, k⟩ => ⟨h, S.keep H (tkc_ok S.cok) (tkd_ok S.dok) k⟩

-- WHICH LINE, BY BITS
set_option maxRecDepth 100000 in
theorem tz8_low : ∀ x : Fin 256, ∀ n : Fin 8, (x.val.testBit n.val = true ∧ ∀ j : Fin 8, j.val < n.val → x.val.testBit j.val = false) → tz8 x.val = n.val := by decide +kernel
set_option maxRecDepth 100000 in
theorem tz8_up : ∀ x : Fin 256, ∀ n : Fin 9, (∀ j : Fin 8, j.val < n.val → x.val.testBit j.val = false) → n.val ≤ tz8 x.val := by decide +kernel
theorem tz8_is {x n : Nat} (hx : x < 256) (hn : n < 8) (h : x.testBit n = true) (hl : ∀ j, j < n → x.testBit j = false) : tz8 x = n :=
  tz8_low ⟨x, hx⟩ ⟨n, hn⟩ ⟨h, fun j hj => hl j.val hj⟩
theorem tz8_ge {x n : Nat} (hx : x < 256) (hn : n ≤ 8) (hl : ∀ j, j < n → x.testBit j = false) : n ≤ tz8 x :=
  tz8_up ⟨x, hx⟩ ⟨n, by omega⟩ (fun j hj => hl j.val hj)
theorem bit_not (m j : Nat) (hm : m < 256) (hj : j < 8) : (255 - m).testBit j = !m.testBit j := by
  have h : ∀ m : Fin 256, ∀ j : Fin 8, (255 - m.val).testBit j.val = !m.val.testBit j.val := by decide +kernel
  exact h ⟨m, hm⟩ ⟨j, hj⟩
theorem bit_pow (n j : Nat) (hn : n < 8) (hj : j < 8) : (2 ^ n).testBit j = decide (n = j) := by
  have h : ∀ n : Fin 8, ∀ j : Fin 8, (2 ^ n.val).testBit j.val = decide (n.val = j.val) := by decide +kernel
  exact h ⟨n, hn⟩ ⟨j, hj⟩
theorem bit_left (a m j : Nat) (hm : m < 256) (hj : j < 8) : (left a m).testBit j = (a.testBit j && !m.testBit j) := by
  unfold left; rw [Nat.testBit_and, bit_not m j hm hj]
theorem bits_eq {x y : Nat} (hx : x < 256) (hy : y < 256) (h : ∀ j, j < 8 → x.testBit j = y.testBit j) : x = y := by
  refine Nat.eq_of_testBit_eq fun i => ?_
  by_cases hi : i < 8
  · exact h i hi
  · have hp : 2 ^ 8 ≤ 2 ^ i := Nat.pow_le_pow_right (by decide) (by omega)
    rw [Nat.testBit_lt_two_pow (Nat.lt_of_lt_of_le hx hp), Nat.testBit_lt_two_pow (Nat.lt_of_lt_of_le hy hp)]
/-- What a line does to what asks, by bits. -/
theorem asks_line (c : Chip) (hc : c.ok) (k j : Nat) (hk : k < 8) (hj : j < 8) (up : Bool) (hne : k ≠ j) : (lineC c k up).asks.testBit j = c.asks.testBit j := by
  have hp : 2 ^ k < 256 := Nat.pow_lt_pow_right (a := 2) (by decide) hk
  cases up
  · show (c.asks &&& (255 - 2 ^ k)).testBit j = _
    rw [Nat.testBit_and, bit_not _ _ hp hj, bit_pow k j hk hj, decide_eq_false hne]; simp
  · show (c.asks ||| (2 ^ k &&& (255 - c.up))).testBit j = _
    rw [Nat.testBit_or, Nat.testBit_and, bit_pow k j hk hj, decide_eq_false hne]; simp
theorem asks_down (c : Chip) (hc : c.ok) (k : Nat) (hk : k < 8) : (lineC c k false).asks.testBit k = false := by
  have hp : 2 ^ k < 256 := Nat.pow_lt_pow_right (a := 2) (by decide) hk
  show (c.asks &&& (255 - 2 ^ k)).testBit k = _
  rw [Nat.testBit_and, bit_not _ _ hp hk, bit_pow k k hk hk]; simp
theorem asks_up (c : Chip) (hc : c.ok) (k : Nat) (hk : k < 8) (h : c.asks.testBit k = true ∨ c.up.testBit k = false) : (lineC c k true).asks.testBit k = true := by
  show (c.asks ||| (2 ^ k &&& (255 - c.up))).testBit k = _
  rw [Nat.testBit_or, Nat.testBit_and, bit_not _ _ hc.up hk, bit_pow k k hk hk]
  rcases h with h | h <;> simp [h]
theorem isTold_no {a m s : Nat} (h : left a m = 0) (hs : s < 256) : isTold a m s = false := by
  unfold isTold
  have : tz8 (a &&& (255 - m)) = 8 := by
    show tz8 (left a m) = 8
    rw [h]; kernel_rfl
  rw [this]
  exact decide_eq_false (by have := tz8_le s hs; omega)
end Go.Proofs.Ytojmpdddfnkffaa.Pic

/- pic: the order in which lines are told, as a plain law over chips. -/
namespace Go.Proofs.Ytojmpdddfnkffaa.Pic
open Go.RowKit
set_option linter.unusedVariables false

theorem bit_ask0 (c d : Chip) (j : Nat) (hj : j < 8) : (ask0 c d).testBit j = if j = 2 then isTold d.asks d.masked d.served else c.asks.testBit j := by
  have h1 : ∀ j : Fin 8, (251).testBit j.val = !decide (j.val = 2) := by decide +kernel
  have h2 : ∀ j : Fin 8, (4).testBit j.val = decide (j.val = 2) := by decide +kernel
  have e1 := h1 ⟨j, hj⟩
  have e2 := h2 ⟨j, hj⟩
  simp only at e1 e2
  unfold ask0
  cases ht : isTold d.asks d.masked d.served
  · rw [if_neg (by simp), Nat.testBit_and, e1]
    by_cases h : j = 2 <;> simp [h]
  · rw [if_pos rfl, Nat.testBit_or, Nat.testBit_and, e1, e2]
    by_cases h : j = 2 <;> simp [h]

def pc (j : Nat) : Nat := if j < 2 then j else j + 7
/-- The line that stands at place k of the order. -/
def lineAt (k : Nat) : Nat := if k < 2 then k else if k < 10 then k + 6 else k - 7
structure Inv (lo hi ml mh k : Nat) (c d : Chip) : Prop where
  cm : c.masked = ml
  dm : d.masked = mh
  cs : c.served = 0
  ds : d.served = 0
  ce : c.ends = false
  de : d.ends = false
  cb : c.base = 32
  db : d.base = 40
  ca : ∀ j, j < 8 → j ≠ 2 → k ≤ pc j → c.asks.testBit j = lo.testBit j
  cz : ∀ j, j < 8 → j ≠ 2 → pc j < k → (c.asks.testBit j && !ml.testBit j) = false
  da : ∀ j, j < 8 → k ≤ j + 2 → d.asks.testBit j = hi.testBit j
  dz : ∀ j, j < 8 → j + 2 < k → (d.asks.testBit j && !mh.testBit j) = false

theorem tz0 : tz8 0 = 8 := by kernel_rfl
theorem tzp (n : Nat) (hn : n < 8) : tz8 (2 ^ n) = n := by
  have h : ∀ n : Fin 8, tz8 (2 ^ n.val) = n.val := by decide +kernel
  exact h ⟨n, hn⟩
theorem eoi_pow (n : Nat) (hn : n < 8) : (2 ^ n) &&& ((2 ^ n + 255) % 256) = 0 := by
  have h : ∀ n : Fin 8, (2 ^ n.val) &&& ((2 ^ n.val + 255) % 256) = 0 := by decide +kernel
  exact h ⟨n, hn⟩
theorem eoi (c : Chip) : outC c true 32 = { c with served := c.served &&& ((c.served + 255) % 256) } := rfl

section
variable {lo hi ml mh k : Nat} {c d : Chip} (I : Inv lo hi ml mh k c d) (hc : c.ok) (hd : d.ok) (h2 : ml.testBit 2 = false) (hml : ml < 256) (hmh : mh < 256)
include I hc hd h2 hml hmh

omit hc h2 hml in
theorem d_none (hk : 10 ≤ k) : isTold d.asks d.masked d.served = false := by
  refine isTold_no ?_ (by rw [I.ds]; decide)
  refine bits_eq (left_lt hd.asks) (by decide) fun j hj => ?_
  rw [bit_left _ _ _ (by rw [I.dm]; exact hmh) hj, I.dm, I.dz j hj (by omega)]
  simp
omit h2 in
theorem take_c (n : Nat) (hn : n < 8) (n2 : n ≠ 2) (hk : k = pc n) (ha : lo.testBit n = true) (hm : ml.testBit n = false) :
    told0 c d = true ∧ vec0 c d = 32 + n ∧ tkd c d = d ∧ tkc c d = takeC c n ∧ told0 (takeC c n) d = false ∧ Inv lo hi ml mh (k + 1) (outC (takeC c n) true 32) d := by
  have hlow : ∀ j, j < n → ((ask0 c d).testBit j && !ml.testBit j) = false := by
    intro j hj
    rw [bit_ask0 c d j (by omega)]
    by_cases j2 : j = 2
    · subst j2
      have hk10 : 10 ≤ k := by rw [hk]; unfold pc; rw [if_neg (by omega)]; omega
      rw [if_pos rfl, d_none I hd hmh hk10]; rfl
    · rw [if_neg j2]
      exact I.cz j (by omega) j2 (by rw [hk]; unfold pc; (repeat' split) <;> omega)
  have hl : tz8 (left (ask0 c d) c.masked) = n := by
    refine tz8_is (left_lt (ask0_lt c d hc.asks)) hn ?_ ?_
    · rw [bit_left _ _ _ (by rw [I.cm]; exact hml) hn, I.cm, bit_ask0 c d n hn, if_neg n2, I.ca n hn n2 (by omega), ha, hm]; rfl
    · intro j hj
      rw [bit_left _ _ _ (by rw [I.cm]; exact hml) (by omega), I.cm]; exact hlow j hj
  have ht : told0 c d = true := by
    unfold told0 isTold
    show decide (tz8 (left (ask0 c d) c.masked) < tz8 c.served) = true
    rw [hl, I.cs, tz0]; exact decide_eq_true hn
  have hsv : servedC c n = 2 ^ n := by unfold servedC; rw [I.ce, I.cs]; simp
  have hp : 2 ^ n < 256 := Nat.pow_lt_pow_right (a := 2) (by decide) hn
  refine ⟨ht, ?_, ?_, ?_, ?_, ?_⟩
  · unfold vec0 line0; rw [ht, hl, if_pos rfl, if_neg n2, I.cb]
  · unfold tkd line0; rw [ht, hl, if_pos rfl, if_neg n2]
  · unfold tkc line0; rw [ht, hl, if_pos rfl]
  · unfold told0 isTold
    show decide (tz8 (left (ask0 (takeC c n) d) c.masked) < tz8 (servedC c n)) = false
    rw [hsv, tzp n hn]
    refine decide_eq_false ?_
    have : n + 1 ≤ tz8 (left (ask0 (takeC c n) d) c.masked) := by
      refine tz8_ge (left_lt (ask0_lt (takeC c n) d (andNot_lt _ _ hc.asks))) (by omega) ?_
      intro j hj
      rw [bit_left _ _ _ (by rw [I.cm]; exact hml) (by omega), I.cm]
      by_cases e : j = n
      · subst e
        rw [bit_ask0 _ d j hn, if_neg n2]
        show ((c.asks &&& (255 - 2 ^ j)).testBit j && _) = _
        rw [Nat.testBit_and, bit_not _ _ hp hn, bit_pow j j hn hn]; simp
      · have h := hlow j (by omega)
        rw [bit_ask0 c d j (by omega)] at h
        rw [bit_ask0 _ d j (by omega)]
        by_cases j2 : j = 2
        · rw [if_pos j2] at h ⊢; exact h
        · rw [if_neg j2] at h ⊢
          show ((c.asks &&& (255 - 2 ^ n)).testBit j && _) = _
          rw [Nat.testBit_and]
          cases hq : c.asks.testBit j
          · simp
          · rw [hq] at h; simp at h; rw [h]; simp
    omega
  · rw [eoi]
    refine ⟨I.cm, I.dm, ?_, I.ds, I.ce, I.de, I.cb, I.db, ?_, ?_, fun j hj hjk => I.da j hj (by omega), ?_⟩
    · show servedC c n &&& ((servedC c n + 255) % 256) = 0
      rw [hsv]; exact eoi_pow n hn
    · intro j hj j2 hjk
      show (c.asks &&& (255 - 2 ^ n)).testBit j = _
      have ne : n ≠ j := by intro e; subst e; omega
      rw [Nat.testBit_and, bit_not _ _ hp hj, bit_pow n j hn hj, decide_eq_false ne, ← I.ca j hj j2 (by omega)]; simp
    · intro j hj j2 hjk
      show ((c.asks &&& (255 - 2 ^ n)).testBit j && _) = _
      by_cases e : j = n
      · subst e
        rw [Nat.testBit_and, bit_not _ _ hp hj, bit_pow j j hj hj]; simp
      · have h := I.cz j hj j2 (by
          have : pc j ≠ pc n := by unfold pc; (repeat' split) <;> omega
          omega)
        rw [Nat.testBit_and]
        cases hq : c.asks.testBit j
        · simp
        · rw [hq] at h; simp at h; rw [h]; simp
    · intro j hj hjk
      refine I.dz j hj ?_
      have : k ≠ j + 2 := by
        rw [hk]; unfold pc; split <;> omega
      omega
theorem take_d (j : Nat) (hj : j < 8) (hk : k = j + 2) (ha : hi.testBit j = true) (hm : mh.testBit j = false) :
    told0 c d = true ∧ vec0 c d = 40 + j ∧ tkd c d = takeC d j ∧ tkc c d = takeC c 2 ∧ told0 (takeC c 2) (takeC d j) = false ∧ Inv lo hi ml mh (k + 1) (outC (takeC c 2) true 32) (outC (takeC d j) true 32) := by
  have hp : 2 ^ j < 256 := Nat.pow_lt_pow_right (a := 2) (by decide) hj
  have dlow : ∀ i, i < j → (d.asks.testBit i && !mh.testBit i) = false := fun i hi => I.dz i (by omega) (by omega)
  have hld : tz8 (left d.asks d.masked) = j := by
    refine tz8_is (left_lt hd.asks) hj ?_ ?_
    · rw [bit_left _ _ _ (by rw [I.dm]; exact hmh) hj, I.dm, I.da j hj (by omega), ha, hm]; rfl
    · intro i hi
      rw [bit_left _ _ _ (by rw [I.dm]; exact hmh) (by omega), I.dm]; exact dlow i hi
  have htd : isTold d.asks d.masked d.served = true := by
    unfold isTold
    show decide (tz8 (left d.asks d.masked) < tz8 d.served) = true
    rw [hld, I.ds, tz0]; exact decide_eq_true hj
  have clow : ∀ i, i < 2 → (c.asks.testBit i && !ml.testBit i) = false := fun i hi => I.cz i (by omega) (by omega) (by unfold pc; rw [if_pos hi]; omega)
  have hl : tz8 (left (ask0 c d) c.masked) = 2 := by
    refine tz8_is (left_lt (ask0_lt c d hc.asks)) (by decide) ?_ ?_
    · rw [bit_left _ _ _ (by rw [I.cm]; exact hml) (by decide), I.cm, bit_ask0 c d 2 (by decide), if_pos rfl, htd, h2]; rfl
    · intro i hi
      rw [bit_left _ _ _ (by rw [I.cm]; exact hml) (by omega), I.cm, bit_ask0 c d i (by omega), if_neg (by omega)]; exact clow i hi
  have ht : told0 c d = true := by
    unfold told0 isTold
    show decide (tz8 (left (ask0 c d) c.masked) < tz8 c.served) = true
    rw [hl, I.cs, tz0]; rfl
  have hsc : servedC c 2 = 2 ^ 2 := by unfold servedC; rw [I.ce, I.cs]; simp
  have hsd : servedC d j = 2 ^ j := by unfold servedC; rw [I.de, I.ds]; simp
  have htk : tk1 d = takeC d j := by unfold tk1; rw [htd, hld, if_pos rfl]
  have dnext : ∀ i, i ≤ j → ((d.asks &&& (255 - 2 ^ j)).testBit i && !mh.testBit i) = false := by
    intro i hi
    rw [Nat.testBit_and, bit_not _ _ hp (by omega), bit_pow j i hj (by omega)]
    by_cases e : i = j
    · subst e; simp
    · have h := dlow i (by omega)
      cases hq : d.asks.testBit i
      · simp
      · rw [hq] at h; simp at h; rw [h]; simp
  refine ⟨ht, ?_, ?_, ?_, ?_, ?_⟩
  · unfold vec0 line0; rw [ht, hl, if_pos rfl, if_pos rfl]; unfold vec1; rw [htd, hld, if_pos rfl, I.db]
  · unfold tkd line0; rw [ht, hl, if_pos rfl, if_pos rfl, htk]
  · unfold tkc line0; rw [ht, hl, if_pos rfl]
  · have nt : isTold (takeC d j).asks (takeC d j).masked (takeC d j).served = false := by
      unfold isTold
      show decide (tz8 (left (d.asks &&& (255 - 2 ^ j)) d.masked) < tz8 (servedC d j)) = false
      rw [hsd, tzp j hj]
      refine decide_eq_false ?_
      have : j + 1 ≤ tz8 (left (d.asks &&& (255 - 2 ^ j)) d.masked) := by
        refine tz8_ge (left_lt (andNot_lt _ _ hd.asks)) (by omega) ?_
        intro i hi
        rw [bit_left _ _ _ (by rw [I.dm]; exact hmh) (by omega), I.dm]; exact dnext i (by omega)
      omega
    unfold told0
    have hs : (takeC c 2).served = 2 ^ 2 := hsc
    unfold isTold
    show decide (tz8 (left (ask0 (takeC c 2) (takeC d j)) c.masked) < tz8 (servedC c 2)) = false
    rw [hsc, tzp 2 (by decide)]
    refine decide_eq_false ?_
    have : 3 ≤ tz8 (left (ask0 (takeC c 2) (takeC d j)) c.masked) := by
      refine tz8_ge (left_lt (ask0_lt _ _ (andNot_lt _ _ hc.asks))) (by omega) ?_
      intro i hi
      rw [bit_left _ _ _ (by rw [I.cm]; exact hml) (by omega), I.cm, bit_ask0 _ _ i (by omega)]
      by_cases i2 : i = 2
      · rw [if_pos i2, nt]; rfl
      · rw [if_neg i2]
        show ((c.asks &&& (255 - 2 ^ 2)).testBit i && _) = _
        have h := clow i (by omega)
        rw [Nat.testBit_and]
        cases hq : c.asks.testBit i
        · simp
        · rw [hq] at h; simp at h; rw [h]; simp
    omega
  · rw [eoi, eoi]
    refine ⟨I.cm, I.dm, ?_, ?_, I.ce, I.de, I.cb, I.db, ?_, ?_, ?_, ?_⟩
    · show servedC c 2 &&& ((servedC c 2 + 255) % 256) = 0
      rw [hsc]; exact eoi_pow 2 (by decide)
    · show servedC d j &&& ((servedC d j + 255) % 256) = 0
      rw [hsd]; exact eoi_pow j hj
    · intro i hi i2 hik
      show (c.asks &&& (255 - 2 ^ 2)).testBit i = _
      rw [Nat.testBit_and, bit_not _ _ (by decide) hi, bit_pow 2 i (by decide) hi, decide_eq_false (fun e => i2 e.symm), ← I.ca i hi i2 (by omega)]; simp
    · intro i hi i2 hik
      show ((c.asks &&& (255 - 2 ^ 2)).testBit i && _) = _
      have h := I.cz i hi i2 (by
        have : pc i ≠ k := by unfold pc; (repeat' split) <;> omega
        omega)
      rw [Nat.testBit_and]
      cases hq : c.asks.testBit i
      · simp
      · rw [hq] at h; simp at h; rw [h]; simp
    · intro i hi hik
      show (d.asks &&& (255 - 2 ^ j)).testBit i = _
      rw [Nat.testBit_and, bit_not _ _ hp hi, bit_pow j i hj hi, decide_eq_false (by omega : ¬ j = i), ← I.da i hi (by omega)]; simp
    · intro i hi hik
      exact dnext i (by omega)
omit hc hd h2 hml hmh in
/-- A line that does not ask, or is masked, is passed by. -/
theorem skip_c (n : Nat) (hn : n < 8) (n2 : n ≠ 2) (hk : k = pc n) (h : lo.testBit n = false ∨ ml.testBit n = true) : Inv lo hi ml mh (k + 1) c d := by
  refine ⟨I.cm, I.dm, I.cs, I.ds, I.ce, I.de, I.cb, I.db, fun j hj j2 hjk => I.ca j hj j2 (by omega), ?_, fun j hj hjk => I.da j hj (by omega), ?_⟩
  · intro j hj j2 hjk
    by_cases e : j = n
    · subst e
      rw [I.ca j hj j2 (by omega)]
      rcases h with h | h <;> simp [h]
    · refine I.cz j hj j2 ?_
      have : pc j ≠ pc n := by unfold pc; (repeat' split) <;> omega
      omega
  · intro j hj hjk
    refine I.dz j hj ?_
    have : k ≠ j + 2 := by rw [hk]; unfold pc; split <;> omega
    omega
omit hc hd h2 hml hmh in
theorem skip_d (n : Nat) (hn : n < 8) (hk : k = n + 2) (h : hi.testBit n = false ∨ mh.testBit n = true) : Inv lo hi ml mh (k + 1) c d := by
  refine ⟨I.cm, I.dm, I.cs, I.ds, I.ce, I.de, I.cb, I.db, fun j hj j2 hjk => I.ca j hj j2 (by omega), ?_, fun j hj hjk => I.da j hj (by omega), ?_⟩
  · intro j hj j2 hjk
    refine I.cz j hj j2 ?_
    have : pc j ≠ k := by unfold pc; (repeat' split) <;> omega
    omega
  · intro j hj hjk
    by_cases e : j = n
    · subst e
      rw [I.da j hj (by omega)]
      rcases h with h | h <;> simp [h]
    · exact I.dz j hj (by omega)
omit h2 in
theorem at_end (hk : 15 ≤ k) : told0 c d = false ∧ vec0 c d = 39 := by
  have ht : told0 c d = false := by
    unfold told0
    refine isTold_no ?_ (by rw [I.cs]; decide)
    refine bits_eq (left_lt (ask0_lt c d hc.asks)) (by decide) fun j hj => ?_
    rw [bit_left _ _ _ (by rw [I.cm]; exact hml) hj, I.cm, bit_ask0 c d j hj]
    by_cases j2 : j = 2
    · rw [if_pos j2, d_none I hd hmh (by omega)]; simp
    · rw [if_neg j2, I.cz j hj j2 (by unfold pc; split <;> omega)]; simp
  exact ⟨ht, by unfold vec0; rw [ht, I.cb]; rfl⟩
end

-- THE CALLS, THAT TURN NO OTHER BLOCK
theorem out_k {w0 w : World} {b : Nat} {c d : Chip} (S : St w0 w b c d) (n : Int) (v : Nat) (hv : v < 256) :
    Calls Try.prog 73 #[.pointer (some ⟨b, 0, none⟩), .int .i64 n, .int .u8 v] w fun r w' => r = .returned (.int .i64 (perr n)) ∧ St w0 w' b (otc c n v) (otd d n v) ∧ Keeps (· = b) w w' :=
  (out_any b c d S.cok S.dok n v hv w S.P).mono fun _ _ ⟨h, H, k⟩ => ⟨h, S.keep H (otc_ok S.cok n v hv) (otd_ok S.dok n v hv) k, k⟩
theorem pending_k {w0 w : World} {b : Nat} {c d : Chip} (S : St w0 w b c d) :
    Calls Try.prog 30 #[.pointer (some ⟨b, 0, none⟩)] w fun r w' => r = .returned (.bool (told0 c d)) ∧ St w0 w' b c d ∧ Keeps (· = b) w w' :=
  (pending_any b c d S.cok S.dok w S.P).mono fun _ _ ⟨h, n, k⟩ => ⟨h, by rw [k]; exact S.drew n, by rw [k]; exact (Keeps.refl _ _).drewN n⟩
theorem ack_k {w0 w : World} {b : Nat} {c d : Chip} (S : St w0 w b c d) :
    Calls Try.prog 31 #[.pointer (some ⟨b, 0, none⟩)] w fun r w' => r = .returned (.int .i64 (vec0 c d : Nat)) ∧ St w0 w' b (tkc c d) (tkd c d) ∧ Keeps (· = b) w w' :=
  (ack_any b c d S.cok S.dok w S.P).mono fun _ _ ⟨h, H, k⟩ => ⟨h, S.keep H (tkc_ok S.cok) (tkd_ok S.dok) k, k⟩
theorem bit_mod (x k : Nat) : (((x : Int) / 2 ^ k).tmod 2 == 1) = x.testBit k := by
  have e : ((x : Int) / 2 ^ k) = ((x / 2 ^ k : Nat) : Int) := by simp
  rw [e, Nat.testBit_eq_decide_div_mod_eq, Int.tmod_eq_emod_of_nonneg (Int.natCast_nonneg _)]
  generalize x / 2 ^ k = q
  rw [Bool.eq_iff_iff, beq_iff_eq, decide_eq_true_eq]
  omega
theorem bit_mod0 (x k : Nat) : (((x : Int) / 2 ^ k).tmod 2 == 0) = !x.testBit k := by
  have e : ((x : Int) / 2 ^ k) = ((x / 2 ^ k : Nat) : Int) := by simp
  rw [e, Nat.testBit_eq_decide_div_mod_eq, Int.tmod_eq_emod_of_nonneg (Int.natCast_nonneg _)]
  generalize x / 2 ^ k = q
  rw [Bool.eq_iff_iff, beq_iff_eq, Bool.not_eq_true', decide_eq_false_iff_not]
  omega
end Go.Proofs.Ytojmpdddfnkffaa.Pic

