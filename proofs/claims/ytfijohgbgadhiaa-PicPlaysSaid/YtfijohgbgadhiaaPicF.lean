/- pic: Out$1. -/
import Derived.Test.YtfijohgbgadhiaaPicE
namespace Go.Proofs.Ytfijohgbgadhiaa
open Go.RowKit
set_option linter.unusedVariables false
set_option linter.unusedSimpArgs false

set_option maxHeartbeats 2000000 in
theorem o16_00_d (b k : Nat) (c d : Chip) (hok : d.ok) (v : Nat) (hv : v < 256) (h16 : v &&& 16 = 16) (h2 : v &&& 2 = 0) (h1 : v &&& 1 = 0) (w : World) (H : Pair w b c d) (kv : w.cell? ⟨k, 0, none⟩ = some (.int .u8 v)) (hkb : k ≠ b) :
    Calls Try.prog 23 #[.pointer (some ⟨b, 10, none⟩), .bool true, .pointer (some ⟨k, 0, none⟩)] w fun r w' => r = .returned (.tuple #[]) ∧ Pair w' b c (Chip.mk 0 0 0 d.up d.base false false 1 true false) ∧ Keeps (· = b) w w' := by
  obtain ⟨k0, k1, k2, k3, k4, k5, k6, k7, k8, k9, k10, k11, k12, k13, k14, k15, k16, k17, k18, k19, kf, klt⟩ := H.facts
  have e16 : bits .and .u8 (v : Int) 16 = 16 := by
    have h := u8_and_nat v 16 hv (by decide)
    rw [h16] at h
    exact h
  have e2 : bits .and .u8 (v : Int) 2 = 0 := by
    have h := u8_and_nat v 2 hv (by decide)
    rw [h2] at h
    exact h
  have e1 : bits .and .u8 (v : Int) 1 = 0 := by
    have h := u8_and_nat v 1 hv (by decide)
    rw [h1] at h
    exact h
  go_enter Try.func23, Try.ntmps23
  go_wp2_with fail
  go_region
  go_wp2_with fail
  go_returns
  refine ⟨rfl, ?_, by (repeat' (first | (with_reducible exact Keeps.refl _ _) | (with_reducible exact hk) | (with_reducible refine Keeps.setOne ?_ _ _) | (with_reducible refine Keeps.alloc ?_ _) | (with_reducible refine Keeps.drew ?_) | (with_reducible refine Keeps.drewN ?_ _)))⟩
  unfold Pair Chip.cells at H ⊢
  simp only [List.cons_append, List.nil_append] at H ⊢
  (first | (simp only [heap_set_map, putObj_cells, H, Option.map_some, List.set_cons_succ, List.set_cons_zero, heap_drewN, heap_drew]; done) | (simp only [heap_set_map, putObj_cells, H, Option.map_some, List.set_cons_succ, List.set_cons_zero, heap_drewN, heap_drew]; rfl))

set_option maxHeartbeats 2000000 in
theorem o16_01_d (b k : Nat) (c d : Chip) (hok : d.ok) (v : Nat) (hv : v < 256) (h16 : v &&& 16 = 16) (h2 : v &&& 2 = 0) (h1 : v &&& 1 = 1) (w : World) (H : Pair w b c d) (kv : w.cell? ⟨k, 0, none⟩ = some (.int .u8 v)) (hkb : k ≠ b) :
    Calls Try.prog 23 #[.pointer (some ⟨b, 10, none⟩), .bool true, .pointer (some ⟨k, 0, none⟩)] w fun r w' => r = .returned (.tuple #[]) ∧ Pair w' b c (Chip.mk 0 0 0 d.up d.base false false 1 true true) ∧ Keeps (· = b) w w' := by
  obtain ⟨k0, k1, k2, k3, k4, k5, k6, k7, k8, k9, k10, k11, k12, k13, k14, k15, k16, k17, k18, k19, kf, klt⟩ := H.facts
  have e16 : bits .and .u8 (v : Int) 16 = 16 := by
    have h := u8_and_nat v 16 hv (by decide)
    rw [h16] at h
    exact h
  have e2 : bits .and .u8 (v : Int) 2 = 0 := by
    have h := u8_and_nat v 2 hv (by decide)
    rw [h2] at h
    exact h
  have e1 : bits .and .u8 (v : Int) 1 = 1 := by
    have h := u8_and_nat v 1 hv (by decide)
    rw [h1] at h
    exact h
  go_enter Try.func23, Try.ntmps23
  go_wp2_with fail
  go_region
  go_wp2_with fail
  go_returns
  refine ⟨rfl, ?_, by (repeat' (first | (with_reducible exact Keeps.refl _ _) | (with_reducible exact hk) | (with_reducible refine Keeps.setOne ?_ _ _) | (with_reducible refine Keeps.alloc ?_ _) | (with_reducible refine Keeps.drew ?_) | (with_reducible refine Keeps.drewN ?_ _)))⟩
  unfold Pair Chip.cells at H ⊢
  simp only [List.cons_append, List.nil_append] at H ⊢
  (first | (simp only [heap_set_map, putObj_cells, H, Option.map_some, List.set_cons_succ, List.set_cons_zero, heap_drewN, heap_drew]; done) | (simp only [heap_set_map, putObj_cells, H, Option.map_some, List.set_cons_succ, List.set_cons_zero, heap_drewN, heap_drew]; rfl))

set_option maxHeartbeats 2000000 in
theorem o16_10_d (b k : Nat) (c d : Chip) (hok : d.ok) (v : Nat) (hv : v < 256) (h16 : v &&& 16 = 16) (h2 : v &&& 2 = 2) (h1 : v &&& 1 = 0) (w : World) (H : Pair w b c d) (kv : w.cell? ⟨k, 0, none⟩ = some (.int .u8 v)) (hkb : k ≠ b) :
    Calls Try.prog 23 #[.pointer (some ⟨b, 10, none⟩), .bool true, .pointer (some ⟨k, 0, none⟩)] w fun r w' => r = .returned (.tuple #[]) ∧ Pair w' b c (Chip.mk 0 0 0 d.up d.base false false 1 false false) ∧ Keeps (· = b) w w' := by
  obtain ⟨k0, k1, k2, k3, k4, k5, k6, k7, k8, k9, k10, k11, k12, k13, k14, k15, k16, k17, k18, k19, kf, klt⟩ := H.facts
  have e16 : bits .and .u8 (v : Int) 16 = 16 := by
    have h := u8_and_nat v 16 hv (by decide)
    rw [h16] at h
    exact h
  have e2 : bits .and .u8 (v : Int) 2 = 2 := by
    have h := u8_and_nat v 2 hv (by decide)
    rw [h2] at h
    exact h
  have e1 : bits .and .u8 (v : Int) 1 = 0 := by
    have h := u8_and_nat v 1 hv (by decide)
    rw [h1] at h
    exact h
  go_enter Try.func23, Try.ntmps23
  go_wp2_with fail
  go_region
  go_wp2_with fail
  go_returns
  refine ⟨rfl, ?_, by (repeat' (first | (with_reducible exact Keeps.refl _ _) | (with_reducible exact hk) | (with_reducible refine Keeps.setOne ?_ _ _) | (with_reducible refine Keeps.alloc ?_ _) | (with_reducible refine Keeps.drew ?_) | (with_reducible refine Keeps.drewN ?_ _)))⟩
  unfold Pair Chip.cells at H ⊢
  simp only [List.cons_append, List.nil_append] at H ⊢
  (first | (simp only [heap_set_map, putObj_cells, H, Option.map_some, List.set_cons_succ, List.set_cons_zero, heap_drewN, heap_drew]; done) | (simp only [heap_set_map, putObj_cells, H, Option.map_some, List.set_cons_succ, List.set_cons_zero, heap_drewN, heap_drew]; rfl))

set_option maxHeartbeats 2000000 in
theorem o16_11_d (b k : Nat) (c d : Chip) (hok : d.ok) (v : Nat) (hv : v < 256) (h16 : v &&& 16 = 16) (h2 : v &&& 2 = 2) (h1 : v &&& 1 = 1) (w : World) (H : Pair w b c d) (kv : w.cell? ⟨k, 0, none⟩ = some (.int .u8 v)) (hkb : k ≠ b) :
    Calls Try.prog 23 #[.pointer (some ⟨b, 10, none⟩), .bool true, .pointer (some ⟨k, 0, none⟩)] w fun r w' => r = .returned (.tuple #[]) ∧ Pair w' b c (Chip.mk 0 0 0 d.up d.base false false 1 false true) ∧ Keeps (· = b) w w' := by
  obtain ⟨k0, k1, k2, k3, k4, k5, k6, k7, k8, k9, k10, k11, k12, k13, k14, k15, k16, k17, k18, k19, kf, klt⟩ := H.facts
  have e16 : bits .and .u8 (v : Int) 16 = 16 := by
    have h := u8_and_nat v 16 hv (by decide)
    rw [h16] at h
    exact h
  have e2 : bits .and .u8 (v : Int) 2 = 2 := by
    have h := u8_and_nat v 2 hv (by decide)
    rw [h2] at h
    exact h
  have e1 : bits .and .u8 (v : Int) 1 = 1 := by
    have h := u8_and_nat v 1 hv (by decide)
    rw [h1] at h
    exact h
  go_enter Try.func23, Try.ntmps23
  go_wp2_with fail
  go_region
  go_wp2_with fail
  go_returns
  refine ⟨rfl, ?_, by (repeat' (first | (with_reducible exact Keeps.refl _ _) | (with_reducible exact hk) | (with_reducible refine Keeps.setOne ?_ _ _) | (with_reducible refine Keeps.alloc ?_ _) | (with_reducible refine Keeps.drew ?_) | (with_reducible refine Keeps.drewN ?_ _)))⟩
  unfold Pair Chip.cells at H ⊢
  simp only [List.cons_append, List.nil_append] at H ⊢
  (first | (simp only [heap_set_map, putObj_cells, H, Option.map_some, List.set_cons_succ, List.set_cons_zero, heap_drewN, heap_drew]; done) | (simp only [heap_set_map, putObj_cells, H, Option.map_some, List.set_cons_succ, List.set_cons_zero, heap_drewN, heap_drew]; rfl))

set_option maxHeartbeats 2000000 in
theorem o8_0_d (b k : Nat) (c d : Chip) (hok : d.ok) (v : Nat) (hv : v < 256) (h16 : v &&& 16 = 0) (h8 : v &&& 8 = 8) (h2 : v &&& 2 = 2) (h1 : v &&& 1 = 0) (w : World) (H : Pair w b c d) (kv : w.cell? ⟨k, 0, none⟩ = some (.int .u8 v)) (hkb : k ≠ b) :
    Calls Try.prog 23 #[.pointer (some ⟨b, 10, none⟩), .bool true, .pointer (some ⟨k, 0, none⟩)] w fun r w' => r = .returned (.tuple #[]) ∧ Pair w' b c ({ d with told := false }) ∧ Keeps (· = b) w w' := by
  obtain ⟨k0, k1, k2, k3, k4, k5, k6, k7, k8, k9, k10, k11, k12, k13, k14, k15, k16, k17, k18, k19, kf, klt⟩ := H.facts
  have e16 : bits .and .u8 (v : Int) 16 = 0 := by
    have h := u8_and_nat v 16 hv (by decide)
    rw [h16] at h
    exact h
  have e8 : bits .and .u8 (v : Int) 8 = 8 := by
    have h := u8_and_nat v 8 hv (by decide)
    rw [h8] at h
    exact h
  have e2 : bits .and .u8 (v : Int) 2 = 2 := by
    have h := u8_and_nat v 2 hv (by decide)
    rw [h2] at h
    exact h
  have e1 : bits .and .u8 (v : Int) 1 = 0 := by
    have h := u8_and_nat v 1 hv (by decide)
    rw [h1] at h
    exact h
  go_enter Try.func23, Try.ntmps23
  go_wp2_with fail
  go_returns
  refine ⟨rfl, ?_, by (repeat' (first | (with_reducible exact Keeps.refl _ _) | (with_reducible exact hk) | (with_reducible refine Keeps.setOne ?_ _ _) | (with_reducible refine Keeps.alloc ?_ _) | (with_reducible refine Keeps.drew ?_) | (with_reducible refine Keeps.drewN ?_ _)))⟩
  unfold Pair Chip.cells at H ⊢
  simp only [List.cons_append, List.nil_append] at H ⊢
  (first | (simp only [heap_set_map, putObj_cells, H, Option.map_some, List.set_cons_succ, List.set_cons_zero, heap_drewN, heap_drew]; done) | (simp only [heap_set_map, putObj_cells, H, Option.map_some, List.set_cons_succ, List.set_cons_zero, heap_drewN, heap_drew]; rfl))

set_option maxHeartbeats 2000000 in
theorem o8_1_d (b k : Nat) (c d : Chip) (hok : d.ok) (v : Nat) (hv : v < 256) (h16 : v &&& 16 = 0) (h8 : v &&& 8 = 8) (h2 : v &&& 2 = 2) (h1 : v &&& 1 = 1) (w : World) (H : Pair w b c d) (kv : w.cell? ⟨k, 0, none⟩ = some (.int .u8 v)) (hkb : k ≠ b) :
    Calls Try.prog 23 #[.pointer (some ⟨b, 10, none⟩), .bool true, .pointer (some ⟨k, 0, none⟩)] w fun r w' => r = .returned (.tuple #[]) ∧ Pair w' b c ({ d with told := true }) ∧ Keeps (· = b) w w' := by
  obtain ⟨k0, k1, k2, k3, k4, k5, k6, k7, k8, k9, k10, k11, k12, k13, k14, k15, k16, k17, k18, k19, kf, klt⟩ := H.facts
  have e16 : bits .and .u8 (v : Int) 16 = 0 := by
    have h := u8_and_nat v 16 hv (by decide)
    rw [h16] at h
    exact h
  have e8 : bits .and .u8 (v : Int) 8 = 8 := by
    have h := u8_and_nat v 8 hv (by decide)
    rw [h8] at h
    exact h
  have e2 : bits .and .u8 (v : Int) 2 = 2 := by
    have h := u8_and_nat v 2 hv (by decide)
    rw [h2] at h
    exact h
  have e1 : bits .and .u8 (v : Int) 1 = 1 := by
    have h := u8_and_nat v 1 hv (by decide)
    rw [h1] at h
    exact h
  go_enter Try.func23, Try.ntmps23
  go_wp2_with fail
  go_returns
  refine ⟨rfl, ?_, by (repeat' (first | (with_reducible exact Keeps.refl _ _) | (with_reducible exact hk) | (with_reducible refine Keeps.setOne ?_ _ _) | (with_reducible refine Keeps.alloc ?_ _) | (with_reducible refine Keeps.drew ?_) | (with_reducible refine Keeps.drewN ?_ _)))⟩
  unfold Pair Chip.cells at H ⊢
  simp only [List.cons_append, List.nil_append] at H ⊢
  (first | (simp only [heap_set_map, putObj_cells, H, Option.map_some, List.set_cons_succ, List.set_cons_zero, heap_drewN, heap_drew]; done) | (simp only [heap_set_map, putObj_cells, H, Option.map_some, List.set_cons_succ, List.set_cons_zero, heap_drewN, heap_drew]; rfl))

set_option maxHeartbeats 2000000 in
theorem o8_n_d (b k : Nat) (c d : Chip) (hok : d.ok) (v : Nat) (hv : v < 256) (h16 : v &&& 16 = 0) (h8 : v &&& 8 = 8) (h2 : v &&& 2 = 0) (w : World) (H : Pair w b c d) (kv : w.cell? ⟨k, 0, none⟩ = some (.int .u8 v)) (hkb : k ≠ b) :
    Calls Try.prog 23 #[.pointer (some ⟨b, 10, none⟩), .bool true, .pointer (some ⟨k, 0, none⟩)] w fun r w' => r = .returned (.tuple #[]) ∧ Pair w' b c (d) ∧ Keeps (· = b) w w' := by
  obtain ⟨k0, k1, k2, k3, k4, k5, k6, k7, k8, k9, k10, k11, k12, k13, k14, k15, k16, k17, k18, k19, kf, klt⟩ := H.facts
  have e16 : bits .and .u8 (v : Int) 16 = 0 := by
    have h := u8_and_nat v 16 hv (by decide)
    rw [h16] at h
    exact h
  have e8 : bits .and .u8 (v : Int) 8 = 8 := by
    have h := u8_and_nat v 8 hv (by decide)
    rw [h8] at h
    exact h
  have e2 : bits .and .u8 (v : Int) 2 = 0 := by
    have h := u8_and_nat v 2 hv (by decide)
    rw [h2] at h
    exact h
  go_enter Try.func23, Try.ntmps23
  go_wp2_with fail
  go_returns
  exact ⟨rfl, H, Keeps.refl _ _⟩

set_option maxHeartbeats 2000000 in
theorem o1_d (b k : Nat) (c d : Chip) (hok : d.ok) (v : Nat) (hv : v < 256) (h16 : v &&& 16 = 0) (h8 : v &&& 8 = 0) (h5 : v / 32 = 1) (hz : 0 < d.served) (w : World) (H : Pair w b c d) (kv : w.cell? ⟨k, 0, none⟩ = some (.int .u8 v)) (hkb : k ≠ b) :
    Calls Try.prog 23 #[.pointer (some ⟨b, 10, none⟩), .bool true, .pointer (some ⟨k, 0, none⟩)] w fun r w' => r = .returned (.tuple #[]) ∧ Pair w' b c ({ d with served := d.served &&& ((d.served + 255) % 256) }) ∧ Keeps (· = b) w w' := by
  obtain ⟨k0, k1, k2, k3, k4, k5, k6, k7, k8, k9, k10, k11, k12, k13, k14, k15, k16, k17, k18, k19, kf, klt⟩ := H.facts
  have e16 : bits .and .u8 (v : Int) 16 = 0 := by
    have h := u8_and_nat v 16 hv (by decide)
    rw [h16] at h
    exact h
  have e8 : bits .and .u8 (v : Int) 8 = 0 := by
    have h := u8_and_nat v 8 hv (by decide)
    rw [h8] at h
    exact h
  have hs := hok.served
  have es : bits .and .u8 (d.served : Int) ((d.served : Int) - 1) = ((d.served &&& ((d.served + 255) % 256) : Nat) : Int) := by
    have h := u8_and_nat d.served ((d.served + 255) % 256) hs (Nat.mod_lt _ (by decide))
    rw [← h]
    congr 1
    omega
  go_enter Try.func23, Try.ntmps23
  go_wp2_with fail
  go_region
  go_wp2_with fail
  go_returns
  refine ⟨rfl, ?_, by (repeat' (first | (with_reducible exact Keeps.refl _ _) | (with_reducible exact hk) | (with_reducible refine Keeps.setOne ?_ _ _) | (with_reducible refine Keeps.alloc ?_ _) | (with_reducible refine Keeps.drew ?_) | (with_reducible refine Keeps.drewN ?_ _)))⟩
  unfold Pair Chip.cells at H ⊢
  simp only [List.cons_append, List.nil_append] at H ⊢
  (first | (simp only [heap_set_map, putObj_cells, H, Option.map_some, List.set_cons_succ, List.set_cons_zero, heap_drewN, heap_drew]; done) | (simp only [heap_set_map, putObj_cells, H, Option.map_some, List.set_cons_succ, List.set_cons_zero, heap_drewN, heap_drew]; rfl))

set_option maxHeartbeats 2000000 in
theorem o1z_d (b k : Nat) (c d : Chip) (hok : d.ok) (v : Nat) (hv : v < 256) (h16 : v &&& 16 = 0) (h8 : v &&& 8 = 0) (h5 : v / 32 = 1) (hz : d.served = 0) (w : World) (H : Pair w b c d) (kv : w.cell? ⟨k, 0, none⟩ = some (.int .u8 v)) (hkb : k ≠ b) :
    Calls Try.prog 23 #[.pointer (some ⟨b, 10, none⟩), .bool true, .pointer (some ⟨k, 0, none⟩)] w fun r w' => r = .returned (.tuple #[]) ∧ Pair w' b c ({ d with served := 0 }) ∧ Keeps (· = b) w w' := by
  obtain ⟨k0, k1, k2, k3, k4, k5, k6, k7, k8, k9, k10, k11, k12, k13, k14, k15, k16, k17, k18, k19, kf, klt⟩ := H.facts
  have e16 : bits .and .u8 (v : Int) 16 = 0 := by
    have h := u8_and_nat v 16 hv (by decide)
    rw [h16] at h
    exact h
  have e8 : bits .and .u8 (v : Int) 8 = 0 := by
    have h := u8_and_nat v 8 hv (by decide)
    rw [h8] at h
    exact h
  have hs := hok.served
  have es : bits .and .u8 0 255 = 0 := by decide
  rw [hz] at k11
  go_enter Try.func23, Try.ntmps23
  go_wp2_with fail
  go_region
  go_wp2_with fail
  go_returns
  refine ⟨rfl, ?_, by (repeat' (first | (with_reducible exact Keeps.refl _ _) | (with_reducible exact hk) | (with_reducible refine Keeps.setOne ?_ _ _) | (with_reducible refine Keeps.alloc ?_ _) | (with_reducible refine Keeps.drew ?_) | (with_reducible refine Keeps.drewN ?_ _)))⟩
  unfold Pair Chip.cells at H ⊢
  simp only [List.cons_append, List.nil_append] at H ⊢
  (first | (simp only [heap_set_map, putObj_cells, H, Option.map_some, List.set_cons_succ, List.set_cons_zero, heap_drewN, heap_drew]; done) | (simp only [heap_set_map, putObj_cells, H, Option.map_some, List.set_cons_succ, List.set_cons_zero, heap_drewN, heap_drew]; rfl))

set_option maxHeartbeats 2000000 in
theorem o3_0_d (b k : Nat) (c d : Chip) (hok : d.ok) (v : Nat) (hv : v < 256) (h16 : v &&& 16 = 0) (h8 : v &&& 8 = 0) (h5 : v / 32 = 3) (h7 : v &&& 7 = 0) (w : World) (H : Pair w b c d) (kv : w.cell? ⟨k, 0, none⟩ = some (.int .u8 v)) (hkb : k ≠ b) :
    Calls Try.prog 23 #[.pointer (some ⟨b, 10, none⟩), .bool true, .pointer (some ⟨k, 0, none⟩)] w fun r w' => r = .returned (.tuple #[]) ∧ Pair w' b c ({ d with served := d.served &&& 254 }) ∧ Keeps (· = b) w w' := by
  obtain ⟨k0, k1, k2, k3, k4, k5, k6, k7, k8, k9, k10, k11, k12, k13, k14, k15, k16, k17, k18, k19, kf, klt⟩ := H.facts
  have e16 : bits .and .u8 (v : Int) 16 = 0 := by
    have h := u8_and_nat v 16 hv (by decide)
    rw [h16] at h
    exact h
  have e8 : bits .and .u8 (v : Int) 8 = 0 := by
    have h := u8_and_nat v 8 hv (by decide)
    rw [h8] at h
    exact h
  have e7 : bits .and .u8 (v : Int) 7 = 0 := by
    have h := u8_and_nat v 7 hv (by decide)
    rw [h7] at h
    exact h
  have es : bits .andNot .u8 (d.served : Int) 1 = ((d.served &&& 254 : Nat) : Int) := u8_andNot_nat d.served 1 hok.served (by decide)
  go_enter Try.func23, Try.ntmps23
  go_wp2_with fail
  go_region
  go_wp2_with fail
  go_returns
  refine ⟨rfl, ?_, by (repeat' (first | (with_reducible exact Keeps.refl _ _) | (with_reducible exact hk) | (with_reducible refine Keeps.setOne ?_ _ _) | (with_reducible refine Keeps.alloc ?_ _) | (with_reducible refine Keeps.drew ?_) | (with_reducible refine Keeps.drewN ?_ _)))⟩
  unfold Pair Chip.cells at H ⊢
  simp only [List.cons_append, List.nil_append] at H ⊢
  (first | (simp only [heap_set_map, putObj_cells, H, Option.map_some, List.set_cons_succ, List.set_cons_zero, heap_drewN, heap_drew]; done) | (simp only [heap_set_map, putObj_cells, H, Option.map_some, List.set_cons_succ, List.set_cons_zero, heap_drewN, heap_drew]; rfl))

set_option maxHeartbeats 2000000 in
theorem o3_1_d (b k : Nat) (c d : Chip) (hok : d.ok) (v : Nat) (hv : v < 256) (h16 : v &&& 16 = 0) (h8 : v &&& 8 = 0) (h5 : v / 32 = 3) (h7 : v &&& 7 = 1) (w : World) (H : Pair w b c d) (kv : w.cell? ⟨k, 0, none⟩ = some (.int .u8 v)) (hkb : k ≠ b) :
    Calls Try.prog 23 #[.pointer (some ⟨b, 10, none⟩), .bool true, .pointer (some ⟨k, 0, none⟩)] w fun r w' => r = .returned (.tuple #[]) ∧ Pair w' b c ({ d with served := d.served &&& 253 }) ∧ Keeps (· = b) w w' := by
  obtain ⟨k0, k1, k2, k3, k4, k5, k6, k7, k8, k9, k10, k11, k12, k13, k14, k15, k16, k17, k18, k19, kf, klt⟩ := H.facts
  have e16 : bits .and .u8 (v : Int) 16 = 0 := by
    have h := u8_and_nat v 16 hv (by decide)
    rw [h16] at h
    exact h
  have e8 : bits .and .u8 (v : Int) 8 = 0 := by
    have h := u8_and_nat v 8 hv (by decide)
    rw [h8] at h
    exact h
  have e7 : bits .and .u8 (v : Int) 7 = 1 := by
    have h := u8_and_nat v 7 hv (by decide)
    rw [h7] at h
    exact h
  have es : bits .andNot .u8 (d.served : Int) 2 = ((d.served &&& 253 : Nat) : Int) := u8_andNot_nat d.served 2 hok.served (by decide)
  go_enter Try.func23, Try.ntmps23
  go_wp2_with fail
  go_region
  go_wp2_with fail
  go_returns
  refine ⟨rfl, ?_, by (repeat' (first | (with_reducible exact Keeps.refl _ _) | (with_reducible exact hk) | (with_reducible refine Keeps.setOne ?_ _ _) | (with_reducible refine Keeps.alloc ?_ _) | (with_reducible refine Keeps.drew ?_) | (with_reducible refine Keeps.drewN ?_ _)))⟩
  unfold Pair Chip.cells at H ⊢
  simp only [List.cons_append, List.nil_append] at H ⊢
  (first | (simp only [heap_set_map, putObj_cells, H, Option.map_some, List.set_cons_succ, List.set_cons_zero, heap_drewN, heap_drew]; done) | (simp only [heap_set_map, putObj_cells, H, Option.map_some, List.set_cons_succ, List.set_cons_zero, heap_drewN, heap_drew]; rfl))

set_option maxHeartbeats 2000000 in
theorem o3_2_d (b k : Nat) (c d : Chip) (hok : d.ok) (v : Nat) (hv : v < 256) (h16 : v &&& 16 = 0) (h8 : v &&& 8 = 0) (h5 : v / 32 = 3) (h7 : v &&& 7 = 2) (w : World) (H : Pair w b c d) (kv : w.cell? ⟨k, 0, none⟩ = some (.int .u8 v)) (hkb : k ≠ b) :
    Calls Try.prog 23 #[.pointer (some ⟨b, 10, none⟩), .bool true, .pointer (some ⟨k, 0, none⟩)] w fun r w' => r = .returned (.tuple #[]) ∧ Pair w' b c ({ d with served := d.served &&& 251 }) ∧ Keeps (· = b) w w' := by
  obtain ⟨k0, k1, k2, k3, k4, k5, k6, k7, k8, k9, k10, k11, k12, k13, k14, k15, k16, k17, k18, k19, kf, klt⟩ := H.facts
  have e16 : bits .and .u8 (v : Int) 16 = 0 := by
    have h := u8_and_nat v 16 hv (by decide)
    rw [h16] at h
    exact h
  have e8 : bits .and .u8 (v : Int) 8 = 0 := by
    have h := u8_and_nat v 8 hv (by decide)
    rw [h8] at h
    exact h
  have e7 : bits .and .u8 (v : Int) 7 = 2 := by
    have h := u8_and_nat v 7 hv (by decide)
    rw [h7] at h
    exact h
  have es : bits .andNot .u8 (d.served : Int) 4 = ((d.served &&& 251 : Nat) : Int) := u8_andNot_nat d.served 4 hok.served (by decide)
  go_enter Try.func23, Try.ntmps23
  go_wp2_with fail
  go_region
  go_wp2_with fail
  go_returns
  refine ⟨rfl, ?_, by (repeat' (first | (with_reducible exact Keeps.refl _ _) | (with_reducible exact hk) | (with_reducible refine Keeps.setOne ?_ _ _) | (with_reducible refine Keeps.alloc ?_ _) | (with_reducible refine Keeps.drew ?_) | (with_reducible refine Keeps.drewN ?_ _)))⟩
  unfold Pair Chip.cells at H ⊢
  simp only [List.cons_append, List.nil_append] at H ⊢
  (first | (simp only [heap_set_map, putObj_cells, H, Option.map_some, List.set_cons_succ, List.set_cons_zero, heap_drewN, heap_drew]; done) | (simp only [heap_set_map, putObj_cells, H, Option.map_some, List.set_cons_succ, List.set_cons_zero, heap_drewN, heap_drew]; rfl))

set_option maxHeartbeats 2000000 in
theorem o3_3_d (b k : Nat) (c d : Chip) (hok : d.ok) (v : Nat) (hv : v < 256) (h16 : v &&& 16 = 0) (h8 : v &&& 8 = 0) (h5 : v / 32 = 3) (h7 : v &&& 7 = 3) (w : World) (H : Pair w b c d) (kv : w.cell? ⟨k, 0, none⟩ = some (.int .u8 v)) (hkb : k ≠ b) :
    Calls Try.prog 23 #[.pointer (some ⟨b, 10, none⟩), .bool true, .pointer (some ⟨k, 0, none⟩)] w fun r w' => r = .returned (.tuple #[]) ∧ Pair w' b c ({ d with served := d.served &&& 247 }) ∧ Keeps (· = b) w w' := by
  obtain ⟨k0, k1, k2, k3, k4, k5, k6, k7, k8, k9, k10, k11, k12, k13, k14, k15, k16, k17, k18, k19, kf, klt⟩ := H.facts
  have e16 : bits .and .u8 (v : Int) 16 = 0 := by
    have h := u8_and_nat v 16 hv (by decide)
    rw [h16] at h
    exact h
  have e8 : bits .and .u8 (v : Int) 8 = 0 := by
    have h := u8_and_nat v 8 hv (by decide)
    rw [h8] at h
    exact h
  have e7 : bits .and .u8 (v : Int) 7 = 3 := by
    have h := u8_and_nat v 7 hv (by decide)
    rw [h7] at h
    exact h
  have es : bits .andNot .u8 (d.served : Int) 8 = ((d.served &&& 247 : Nat) : Int) := u8_andNot_nat d.served 8 hok.served (by decide)
  go_enter Try.func23, Try.ntmps23
  go_wp2_with fail
  go_region
  go_wp2_with fail
  go_returns
  refine ⟨rfl, ?_, by (repeat' (first | (with_reducible exact Keeps.refl _ _) | (with_reducible exact hk) | (with_reducible refine Keeps.setOne ?_ _ _) | (with_reducible refine Keeps.alloc ?_ _) | (with_reducible refine Keeps.drew ?_) | (with_reducible refine Keeps.drewN ?_ _)))⟩
  unfold Pair Chip.cells at H ⊢
  simp only [List.cons_append, List.nil_append] at H ⊢
  (first | (simp only [heap_set_map, putObj_cells, H, Option.map_some, List.set_cons_succ, List.set_cons_zero, heap_drewN, heap_drew]; done) | (simp only [heap_set_map, putObj_cells, H, Option.map_some, List.set_cons_succ, List.set_cons_zero, heap_drewN, heap_drew]; rfl))

set_option maxHeartbeats 2000000 in
theorem o3_4_d (b k : Nat) (c d : Chip) (hok : d.ok) (v : Nat) (hv : v < 256) (h16 : v &&& 16 = 0) (h8 : v &&& 8 = 0) (h5 : v / 32 = 3) (h7 : v &&& 7 = 4) (w : World) (H : Pair w b c d) (kv : w.cell? ⟨k, 0, none⟩ = some (.int .u8 v)) (hkb : k ≠ b) :
    Calls Try.prog 23 #[.pointer (some ⟨b, 10, none⟩), .bool true, .pointer (some ⟨k, 0, none⟩)] w fun r w' => r = .returned (.tuple #[]) ∧ Pair w' b c ({ d with served := d.served &&& 239 }) ∧ Keeps (· = b) w w' := by
  obtain ⟨k0, k1, k2, k3, k4, k5, k6, k7, k8, k9, k10, k11, k12, k13, k14, k15, k16, k17, k18, k19, kf, klt⟩ := H.facts
  have e16 : bits .and .u8 (v : Int) 16 = 0 := by
    have h := u8_and_nat v 16 hv (by decide)
    rw [h16] at h
    exact h
  have e8 : bits .and .u8 (v : Int) 8 = 0 := by
    have h := u8_and_nat v 8 hv (by decide)
    rw [h8] at h
    exact h
  have e7 : bits .and .u8 (v : Int) 7 = 4 := by
    have h := u8_and_nat v 7 hv (by decide)
    rw [h7] at h
    exact h
  have es : bits .andNot .u8 (d.served : Int) 16 = ((d.served &&& 239 : Nat) : Int) := u8_andNot_nat d.served 16 hok.served (by decide)
  go_enter Try.func23, Try.ntmps23
  go_wp2_with fail
  go_region
  go_wp2_with fail
  go_returns
  refine ⟨rfl, ?_, by (repeat' (first | (with_reducible exact Keeps.refl _ _) | (with_reducible exact hk) | (with_reducible refine Keeps.setOne ?_ _ _) | (with_reducible refine Keeps.alloc ?_ _) | (with_reducible refine Keeps.drew ?_) | (with_reducible refine Keeps.drewN ?_ _)))⟩
  unfold Pair Chip.cells at H ⊢
  simp only [List.cons_append, List.nil_append] at H ⊢
  (first | (simp only [heap_set_map, putObj_cells, H, Option.map_some, List.set_cons_succ, List.set_cons_zero, heap_drewN, heap_drew]; done) | (simp only [heap_set_map, putObj_cells, H, Option.map_some, List.set_cons_succ, List.set_cons_zero, heap_drewN, heap_drew]; rfl))

set_option maxHeartbeats 2000000 in
theorem o3_5_d (b k : Nat) (c d : Chip) (hok : d.ok) (v : Nat) (hv : v < 256) (h16 : v &&& 16 = 0) (h8 : v &&& 8 = 0) (h5 : v / 32 = 3) (h7 : v &&& 7 = 5) (w : World) (H : Pair w b c d) (kv : w.cell? ⟨k, 0, none⟩ = some (.int .u8 v)) (hkb : k ≠ b) :
    Calls Try.prog 23 #[.pointer (some ⟨b, 10, none⟩), .bool true, .pointer (some ⟨k, 0, none⟩)] w fun r w' => r = .returned (.tuple #[]) ∧ Pair w' b c ({ d with served := d.served &&& 223 }) ∧ Keeps (· = b) w w' := by
  obtain ⟨k0, k1, k2, k3, k4, k5, k6, k7, k8, k9, k10, k11, k12, k13, k14, k15, k16, k17, k18, k19, kf, klt⟩ := H.facts
  have e16 : bits .and .u8 (v : Int) 16 = 0 := by
    have h := u8_and_nat v 16 hv (by decide)
    rw [h16] at h
    exact h
  have e8 : bits .and .u8 (v : Int) 8 = 0 := by
    have h := u8_and_nat v 8 hv (by decide)
    rw [h8] at h
    exact h
  have e7 : bits .and .u8 (v : Int) 7 = 5 := by
    have h := u8_and_nat v 7 hv (by decide)
    rw [h7] at h
    exact h
  have es : bits .andNot .u8 (d.served : Int) 32 = ((d.served &&& 223 : Nat) : Int) := u8_andNot_nat d.served 32 hok.served (by decide)
  go_enter Try.func23, Try.ntmps23
  go_wp2_with fail
  go_region
  go_wp2_with fail
  go_returns
  refine ⟨rfl, ?_, by (repeat' (first | (with_reducible exact Keeps.refl _ _) | (with_reducible exact hk) | (with_reducible refine Keeps.setOne ?_ _ _) | (with_reducible refine Keeps.alloc ?_ _) | (with_reducible refine Keeps.drew ?_) | (with_reducible refine Keeps.drewN ?_ _)))⟩
  unfold Pair Chip.cells at H ⊢
  simp only [List.cons_append, List.nil_append] at H ⊢
  (first | (simp only [heap_set_map, putObj_cells, H, Option.map_some, List.set_cons_succ, List.set_cons_zero, heap_drewN, heap_drew]; done) | (simp only [heap_set_map, putObj_cells, H, Option.map_some, List.set_cons_succ, List.set_cons_zero, heap_drewN, heap_drew]; rfl))

set_option maxHeartbeats 2000000 in
theorem o3_6_d (b k : Nat) (c d : Chip) (hok : d.ok) (v : Nat) (hv : v < 256) (h16 : v &&& 16 = 0) (h8 : v &&& 8 = 0) (h5 : v / 32 = 3) (h7 : v &&& 7 = 6) (w : World) (H : Pair w b c d) (kv : w.cell? ⟨k, 0, none⟩ = some (.int .u8 v)) (hkb : k ≠ b) :
    Calls Try.prog 23 #[.pointer (some ⟨b, 10, none⟩), .bool true, .pointer (some ⟨k, 0, none⟩)] w fun r w' => r = .returned (.tuple #[]) ∧ Pair w' b c ({ d with served := d.served &&& 191 }) ∧ Keeps (· = b) w w' := by
  obtain ⟨k0, k1, k2, k3, k4, k5, k6, k7, k8, k9, k10, k11, k12, k13, k14, k15, k16, k17, k18, k19, kf, klt⟩ := H.facts
  have e16 : bits .and .u8 (v : Int) 16 = 0 := by
    have h := u8_and_nat v 16 hv (by decide)
    rw [h16] at h
    exact h
  have e8 : bits .and .u8 (v : Int) 8 = 0 := by
    have h := u8_and_nat v 8 hv (by decide)
    rw [h8] at h
    exact h
  have e7 : bits .and .u8 (v : Int) 7 = 6 := by
    have h := u8_and_nat v 7 hv (by decide)
    rw [h7] at h
    exact h
  have es : bits .andNot .u8 (d.served : Int) 64 = ((d.served &&& 191 : Nat) : Int) := u8_andNot_nat d.served 64 hok.served (by decide)
  go_enter Try.func23, Try.ntmps23
  go_wp2_with fail
  go_region
  go_wp2_with fail
  go_returns
  refine ⟨rfl, ?_, by (repeat' (first | (with_reducible exact Keeps.refl _ _) | (with_reducible exact hk) | (with_reducible refine Keeps.setOne ?_ _ _) | (with_reducible refine Keeps.alloc ?_ _) | (with_reducible refine Keeps.drew ?_) | (with_reducible refine Keeps.drewN ?_ _)))⟩
  unfold Pair Chip.cells at H ⊢
  simp only [List.cons_append, List.nil_append] at H ⊢
  (first | (simp only [heap_set_map, putObj_cells, H, Option.map_some, List.set_cons_succ, List.set_cons_zero, heap_drewN, heap_drew]; done) | (simp only [heap_set_map, putObj_cells, H, Option.map_some, List.set_cons_succ, List.set_cons_zero, heap_drewN, heap_drew]; rfl))

set_option maxHeartbeats 2000000 in
theorem o3_7_d (b k : Nat) (c d : Chip) (hok : d.ok) (v : Nat) (hv : v < 256) (h16 : v &&& 16 = 0) (h8 : v &&& 8 = 0) (h5 : v / 32 = 3) (h7 : v &&& 7 = 7) (w : World) (H : Pair w b c d) (kv : w.cell? ⟨k, 0, none⟩ = some (.int .u8 v)) (hkb : k ≠ b) :
    Calls Try.prog 23 #[.pointer (some ⟨b, 10, none⟩), .bool true, .pointer (some ⟨k, 0, none⟩)] w fun r w' => r = .returned (.tuple #[]) ∧ Pair w' b c ({ d with served := d.served &&& 127 }) ∧ Keeps (· = b) w w' := by
  obtain ⟨k0, k1, k2, k3, k4, k5, k6, k7, k8, k9, k10, k11, k12, k13, k14, k15, k16, k17, k18, k19, kf, klt⟩ := H.facts
  have e16 : bits .and .u8 (v : Int) 16 = 0 := by
    have h := u8_and_nat v 16 hv (by decide)
    rw [h16] at h
    exact h
  have e8 : bits .and .u8 (v : Int) 8 = 0 := by
    have h := u8_and_nat v 8 hv (by decide)
    rw [h8] at h
    exact h
  have e7 : bits .and .u8 (v : Int) 7 = 7 := by
    have h := u8_and_nat v 7 hv (by decide)
    rw [h7] at h
    exact h
  have es : bits .andNot .u8 (d.served : Int) 128 = ((d.served &&& 127 : Nat) : Int) := u8_andNot_nat d.served 128 hok.served (by decide)
  go_enter Try.func23, Try.ntmps23
  go_wp2_with fail
  go_region
  go_wp2_with fail
  go_returns
  refine ⟨rfl, ?_, by (repeat' (first | (with_reducible exact Keeps.refl _ _) | (with_reducible exact hk) | (with_reducible refine Keeps.setOne ?_ _ _) | (with_reducible refine Keeps.alloc ?_ _) | (with_reducible refine Keeps.drew ?_) | (with_reducible refine Keeps.drewN ?_ _)))⟩
  unfold Pair Chip.cells at H ⊢
  simp only [List.cons_append, List.nil_append] at H ⊢
  (first | (simp only [heap_set_map, putObj_cells, H, Option.map_some, List.set_cons_succ, List.set_cons_zero, heap_drewN, heap_drew]; done) | (simp only [heap_set_map, putObj_cells, H, Option.map_some, List.set_cons_succ, List.set_cons_zero, heap_drewN, heap_drew]; rfl))

set_option maxHeartbeats 2000000 in
theorem on_d (b k : Nat) (c d : Chip) (hok : d.ok) (v : Nat) (hv : v < 256) (h16 : v &&& 16 = 0) (h8 : v &&& 8 = 0) (h5 : v / 32 ≠ 1) (h6 : v / 32 ≠ 3) (w : World) (H : Pair w b c d) (kv : w.cell? ⟨k, 0, none⟩ = some (.int .u8 v)) (hkb : k ≠ b) :
    Calls Try.prog 23 #[.pointer (some ⟨b, 10, none⟩), .bool true, .pointer (some ⟨k, 0, none⟩)] w fun r w' => r = .returned (.tuple #[]) ∧ Pair w' b c (d) ∧ Keeps (· = b) w w' := by
  obtain ⟨k0, k1, k2, k3, k4, k5, k6, k7, k8, k9, k10, k11, k12, k13, k14, k15, k16, k17, k18, k19, kf, klt⟩ := H.facts
  have e16 : bits .and .u8 (v : Int) 16 = 0 := by
    have h := u8_and_nat v 16 hv (by decide)
    rw [h16] at h
    exact h
  have e8 : bits .and .u8 (v : Int) 8 = 0 := by
    have h := u8_and_nat v 8 hv (by decide)
    rw [h8] at h
    exact h
  go_enter Try.func23, Try.ntmps23
  go_wp2_with fail
  go_returns
  exact ⟨rfl, H, Keeps.refl _ _⟩

set_option maxHeartbeats 2000000 in
theorem d0_d (b k : Nat) (c d : Chip) (hok : d.ok) (v : Nat) (hv : v < 256) (h0 : d.stage = 0) (w : World) (H : Pair w b c d) (kv : w.cell? ⟨k, 0, none⟩ = some (.int .u8 v)) (hkb : k ≠ b) :
    Calls Try.prog 23 #[.pointer (some ⟨b, 10, none⟩), .bool false, .pointer (some ⟨k, 0, none⟩)] w fun r w' => r = .returned (.tuple #[]) ∧ Pair w' b c ({ d with masked := v }) ∧ Keeps (· = b) w w' := by
  obtain ⟨k0, k1, k2, k3, k4, k5, k6, k7, k8, k9, k10, k11, k12, k13, k14, k15, k16, k17, k18, k19, kf, klt⟩ := H.facts
  rw [h0] at k17
  replace k17 : w.cell? ⟨b, 17, none⟩ = some (.int .i64 0) := k17
  go_enter Try.func23, Try.ntmps23
  go_wp2_with fail
  go_returns
  refine ⟨rfl, ?_, by (repeat' (first | (with_reducible exact Keeps.refl _ _) | (with_reducible exact hk) | (with_reducible refine Keeps.setOne ?_ _ _) | (with_reducible refine Keeps.alloc ?_ _) | (with_reducible refine Keeps.drew ?_) | (with_reducible refine Keeps.drewN ?_ _)))⟩
  unfold Pair Chip.cells at H ⊢
  simp only [List.cons_append, List.nil_append] at H ⊢
  (first | (simp only [heap_set_map, putObj_cells, H, Option.map_some, List.set_cons_succ, List.set_cons_zero, heap_drewN, heap_drew]; done) | (simp only [heap_set_map, putObj_cells, H, Option.map_some, List.set_cons_succ, List.set_cons_zero, heap_drewN, heap_drew]; rfl))

set_option maxHeartbeats 2000000 in
theorem d1_d (b k : Nat) (c d : Chip) (hok : d.ok) (v : Nat) (hv : v < 256) (h0 : d.stage = 1)  (w : World) (H : Pair w b c d) (kv : w.cell? ⟨k, 0, none⟩ = some (.int .u8 v)) (hkb : k ≠ b) :
    Calls Try.prog 23 #[.pointer (some ⟨b, 10, none⟩), .bool false, .pointer (some ⟨k, 0, none⟩)] w fun r w' => r = .returned (.tuple #[]) ∧ Pair w' b c (onC ({ d with base := v &&& 248 })) ∧ Keeps (· = b) w w' := by
  obtain ⟨k0, k1, k2, k3, k4, k5, k6, k7, k8, k9, k10, k11, k12, k13, k14, k15, k16, k17, k18, k19, kf, klt⟩ := H.facts
  have hst : d.stage = 1 := h0
  rw [h0] at k17
  replace k17 : w.cell? ⟨b, 17, none⟩ = some (.int .i64 1) := k17
  have ea : bits .andNot .u8 (v : Int) 7 = ((v &&& 248 : Nat) : Int) := u8_andNot_nat v 7 hv (by decide)
  go_enter Try.func23, Try.ntmps23
  go_wp2_with fail
  have H1 : ∀ X, X = w.setCell ⟨b, 14, none⟩ (.int .u8 (v &&& 248 : Nat)) → Pair X b c ({ d with base := v &&& 248 }) := by
    rintro X rfl
    unfold Pair Chip.cells at H ⊢
    simp only [List.cons_append, List.nil_append] at H ⊢
    (first | (simp only [heap_set_map, putObj_cells, H, Option.map_some, List.set_cons_succ, List.set_cons_zero, heap_drewN, heap_drew]; done) | (simp only [heap_set_map, putObj_cells, H, Option.map_some, List.set_cons_succ, List.set_cons_zero, heap_drewN, heap_drew]; rfl))
  refine (onward_d b c ({ d with base := v &&& 248 }) (by show d.stage ≠ 0; rw [hst]; decide) (by show d.stage < 4; rw [hst]; decide) _ (H1 _ rfl)).mono ?_
  rintro r w1 ⟨rfl, H2, hk⟩
  go_wp2_with fail
  go_returns
  exact ⟨rfl, H2, Keeps.trans ((Keeps.refl _ _).setOne _ _) hk⟩

set_option maxHeartbeats 2000000 in
theorem d2_d (b k : Nat) (c d : Chip) (hok : d.ok) (v : Nat) (hv : v < 256) (h0 : d.stage = 2)  (w : World) (H : Pair w b c d) (kv : w.cell? ⟨k, 0, none⟩ = some (.int .u8 v)) (hkb : k ≠ b) :
    Calls Try.prog 23 #[.pointer (some ⟨b, 10, none⟩), .bool false, .pointer (some ⟨k, 0, none⟩)] w fun r w' => r = .returned (.tuple #[]) ∧ Pair w' b c (onC (d)) ∧ Keeps (· = b) w w' := by
  obtain ⟨k0, k1, k2, k3, k4, k5, k6, k7, k8, k9, k10, k11, k12, k13, k14, k15, k16, k17, k18, k19, kf, klt⟩ := H.facts
  have hst : d.stage = 2 := h0
  rw [h0] at k17
  replace k17 : w.cell? ⟨b, 17, none⟩ = some (.int .i64 2) := k17
  go_enter Try.func23, Try.ntmps23
  go_wp2_with fail
  refine (onward_d b c (d) (by show d.stage ≠ 0; rw [hst]; decide) (by show d.stage < 4; rw [hst]; decide) w H).mono ?_
  rintro r w1 ⟨rfl, H2, hk⟩
  go_wp2_with fail
  go_returns
  exact ⟨rfl, H2, hk⟩

set_option maxHeartbeats 2000000 in
theorem d3_0_d (b k : Nat) (c d : Chip) (hok : d.ok) (v : Nat) (hv : v < 256) (h0 : d.stage = 3) (h2 : v &&& 2 = 0) (w : World) (H : Pair w b c d) (kv : w.cell? ⟨k, 0, none⟩ = some (.int .u8 v)) (hkb : k ≠ b) :
    Calls Try.prog 23 #[.pointer (some ⟨b, 10, none⟩), .bool false, .pointer (some ⟨k, 0, none⟩)] w fun r w' => r = .returned (.tuple #[]) ∧ Pair w' b c (onC ({ d with ends := false })) ∧ Keeps (· = b) w w' := by
  obtain ⟨k0, k1, k2, k3, k4, k5, k6, k7, k8, k9, k10, k11, k12, k13, k14, k15, k16, k17, k18, k19, kf, klt⟩ := H.facts
  have hst : d.stage = 3 := h0
  rw [h0] at k17
  replace k17 : w.cell? ⟨b, 17, none⟩ = some (.int .i64 3) := k17
  have e2 : bits .and .u8 (v : Int) 2 = 0 := by
    have h := u8_and_nat v 2 hv (by decide)
    rw [h2] at h
    exact h
  go_enter Try.func23, Try.ntmps23
  go_wp2_with fail
  have H1 : ∀ X, X = w.setCell ⟨b, 16, none⟩ (.bool false) → Pair X b c ({ d with ends := false }) := by
    rintro X rfl
    unfold Pair Chip.cells at H ⊢
    simp only [List.cons_append, List.nil_append] at H ⊢
    (first | (simp only [heap_set_map, putObj_cells, H, Option.map_some, List.set_cons_succ, List.set_cons_zero, heap_drewN, heap_drew]; done) | (simp only [heap_set_map, putObj_cells, H, Option.map_some, List.set_cons_succ, List.set_cons_zero, heap_drewN, heap_drew]; rfl))
  refine (onward_d b c ({ d with ends := false }) (by show d.stage ≠ 0; rw [hst]; decide) (by show d.stage < 4; rw [hst]; decide) _ (H1 _ rfl)).mono ?_
  rintro r w1 ⟨rfl, H2, hk⟩
  go_wp2_with fail
  go_returns
  exact ⟨rfl, H2, Keeps.trans ((Keeps.refl _ _).setOne _ _) hk⟩

set_option maxHeartbeats 2000000 in
theorem d3_1_d (b k : Nat) (c d : Chip) (hok : d.ok) (v : Nat) (hv : v < 256) (h0 : d.stage = 3) (h2 : v &&& 2 = 2) (w : World) (H : Pair w b c d) (kv : w.cell? ⟨k, 0, none⟩ = some (.int .u8 v)) (hkb : k ≠ b) :
    Calls Try.prog 23 #[.pointer (some ⟨b, 10, none⟩), .bool false, .pointer (some ⟨k, 0, none⟩)] w fun r w' => r = .returned (.tuple #[]) ∧ Pair w' b c (onC ({ d with ends := true })) ∧ Keeps (· = b) w w' := by
  obtain ⟨k0, k1, k2, k3, k4, k5, k6, k7, k8, k9, k10, k11, k12, k13, k14, k15, k16, k17, k18, k19, kf, klt⟩ := H.facts
  have hst : d.stage = 3 := h0
  rw [h0] at k17
  replace k17 : w.cell? ⟨b, 17, none⟩ = some (.int .i64 3) := k17
  have e2 : bits .and .u8 (v : Int) 2 = 2 := by
    have h := u8_and_nat v 2 hv (by decide)
    rw [h2] at h
    exact h
  go_enter Try.func23, Try.ntmps23
  go_wp2_with fail
  have H1 : ∀ X, X = w.setCell ⟨b, 16, none⟩ (.bool true) → Pair X b c ({ d with ends := true }) := by
    rintro X rfl
    unfold Pair Chip.cells at H ⊢
    simp only [List.cons_append, List.nil_append] at H ⊢
    (first | (simp only [heap_set_map, putObj_cells, H, Option.map_some, List.set_cons_succ, List.set_cons_zero, heap_drewN, heap_drew]; done) | (simp only [heap_set_map, putObj_cells, H, Option.map_some, List.set_cons_succ, List.set_cons_zero, heap_drewN, heap_drew]; rfl))
  refine (onward_d b c ({ d with ends := true }) (by show d.stage ≠ 0; rw [hst]; decide) (by show d.stage < 4; rw [hst]; decide) _ (H1 _ rfl)).mono ?_
  rintro r w1 ⟨rfl, H2, hk⟩
  go_wp2_with fail
  go_returns
  exact ⟨rfl, H2, Keeps.trans ((Keeps.refl _ _).setOne _ _) hk⟩

theorem out1_d (b k : Nat) (c d : Chip) (hok : d.ok) (command : Bool) (v : Nat) (hv : v < 256) (w : World) (H : Pair w b c d) (kv : w.cell? ⟨k, 0, none⟩ = some (.int .u8 v)) (hkb : k ≠ b) :
    Calls Try.prog 23 #[.pointer (some ⟨b, 10, none⟩), .bool command, .pointer (some ⟨k, 0, none⟩)] w fun r w' => r = .returned (.tuple #[]) ∧ Pair w' b c (outC d command v) ∧ Keeps (· = b) w w' := by
  have a1 := and_bit v 1 (by decide) hv
  have a2 := and_bit v 2 (by decide) hv
  have a8 := and_bit v 8 (by decide) hv
  have a16 := and_bit v 16 (by decide) hv
  cases command
  · by_cases h0 : d.stage = 0
    · have E : outC d false v = { d with masked := v } := by unfold outC; rw [if_neg (by decide), if_pos h0]
      rw [E]
      exact d0_d b k c d hok v hv h0 w H kv hkb
    · have h4 := hok.stage
      obtain h1 | h1 | h1 : d.stage = 1 ∨ d.stage = 2 ∨ d.stage = 3 := by omega
      · have E : outC d false v = onC { d with base := v &&& 248 } := by unfold outC; rw [if_neg (by decide), if_neg h0, if_pos h1]
        rw [E]
        exact d1_d b k c d hok v hv h1 w H kv hkb
      · have E : outC d false v = onC d := by unfold outC; rw [if_neg (by decide), if_neg h0, if_neg (by omega), if_neg (by omega)]
        rw [E]
        exact d2_d b k c d hok v hv h1 w H kv hkb
      · rcases a2 with a2 | a2
        · have E : outC d false v = onC { d with ends := false } := by unfold outC bit; rw [if_neg (by decide), if_neg h0, if_neg (by omega), if_pos h1, a2]; rfl
          rw [E]
          exact d3_0_d b k c d hok v hv h1 a2 w H kv hkb
        · have E : outC d false v = onC { d with ends := true } := by unfold outC bit; rw [if_neg (by decide), if_neg h0, if_neg (by omega), if_pos h1, a2]; rfl
          rw [E]
          exact d3_1_d b k c d hok v hv h1 a2 w H kv hkb
  · rcases a16 with a16 | a16
    · have b16 : bit v 16 = false := by unfold bit; rw [a16]; rfl
      rcases a8 with a8 | a8
      · have b8 : bit v 8 = false := by unfold bit; rw [a8]; rfl
        by_cases h1 : v / 32 = 1
        · have E : outC d true v = { d with served := d.served &&& ((d.served + 255) % 256) } := by unfold outC; rw [if_pos rfl, b16, b8, if_neg (by decide), if_neg (by decide), if_pos h1]
          rw [E]
          by_cases hz : d.served = 0
          · have E2 : d.served &&& ((d.served + 255) % 256) = 0 := by rw [hz]; rfl
            rw [E2]
            exact o1z_d b k c d hok v hv a16 a8 h1 hz w H kv hkb
          · exact o1_d b k c d hok v hv a16 a8 h1 (by omega) w H kv hkb
        · by_cases h3 : v / 32 = 3
          · have key : ∀ i, v &&& 7 = i → i < 8 → Calls Try.prog 23 #[.pointer (some ⟨b, 10, none⟩), .bool true, .pointer (some ⟨k, 0, none⟩)] w fun r w' => r = .returned (.tuple #[]) ∧ Pair w' b c { d with served := d.served &&& (255 - 2 ^ i) } ∧ Keeps (· = b) w w' := by
              intro i h7 hi
              obtain rfl | rfl | rfl | rfl | rfl | rfl | rfl | rfl : i = 0 ∨ i = 1 ∨ i = 2 ∨ i = 3 ∨ i = 4 ∨ i = 5 ∨ i = 6 ∨ i = 7 := by omega
              · exact o3_0_d b k c d hok v hv a16 a8 h3 h7 w H kv hkb
              · exact o3_1_d b k c d hok v hv a16 a8 h3 h7 w H kv hkb
              · exact o3_2_d b k c d hok v hv a16 a8 h3 h7 w H kv hkb
              · exact o3_3_d b k c d hok v hv a16 a8 h3 h7 w H kv hkb
              · exact o3_4_d b k c d hok v hv a16 a8 h3 h7 w H kv hkb
              · exact o3_5_d b k c d hok v hv a16 a8 h3 h7 w H kv hkb
              · exact o3_6_d b k c d hok v hv a16 a8 h3 h7 w H kv hkb
              · exact o3_7_d b k c d hok v hv a16 a8 h3 h7 w H kv hkb
            have E : outC d true v = { d with served := d.served &&& (255 - 2 ^ (v &&& 7)) } := by unfold outC; rw [if_pos rfl, b16, b8, if_neg (by decide), if_neg (by decide), if_neg h1, if_pos h3]
            rw [E]
            exact key _ rfl (Nat.lt_of_le_of_lt Nat.and_le_right (by decide))
          · have E : outC d true v = d := by unfold outC; rw [if_pos rfl, b16, b8, if_neg (by decide), if_neg (by decide), if_neg h1, if_neg h3]
            rw [E]
            exact on_d b k c d hok v hv a16 a8 h1 h3 w H kv hkb
      · have b8 : bit v 8 = true := by unfold bit; rw [a8]; rfl
        rcases a2 with a2 | a2
        · have E : outC d true v = d := by unfold outC; rw [if_pos rfl, b16, b8, if_neg (by decide), if_pos rfl]; unfold bit; rw [a2]; rfl
          rw [E]
          exact o8_n_d b k c d hok v hv a16 a8 a2 w H kv hkb
        · rcases a1 with a1 | a1
          · have E : outC d true v = { d with told := false } := by unfold outC; rw [if_pos rfl, b16, b8, if_neg (by decide), if_pos rfl]; unfold bit; rw [a2, a1]; rfl
            rw [E]
            exact o8_0_d b k c d hok v hv a16 a8 a2 a1 w H kv hkb
          · have E : outC d true v = { d with told := true } := by unfold outC; rw [if_pos rfl, b16, b8, if_neg (by decide), if_pos rfl]; unfold bit; rw [a2, a1]; rfl
            rw [E]
            exact o8_1_d b k c d hok v hv a16 a8 a2 a1 w H kv hkb
    · have b16 : bit v 16 = true := by unfold bit; rw [a16]; rfl
      have E : outC d true v = Chip.mk 0 0 0 d.up d.base false false 1 (!bit v 2) (bit v 1) := by unfold outC; rw [if_pos rfl, b16, if_pos rfl]
      rw [E]
      unfold bit
      rcases a2 with a2 | a2
      · rcases a1 with a1 | a1
        · rw [a2, a1]
          exact o16_00_d b k c d hok v hv a16 a2 a1 w H kv hkb
        · rw [a2, a1]
          exact o16_01_d b k c d hok v hv a16 a2 a1 w H kv hkb
      · rcases a1 with a1 | a1
        · rw [a2, a1]
          exact o16_10_d b k c d hok v hv a16 a2 a1 w H kv hkb
        · rw [a2, a1]
          exact o16_11_d b k c d hok v hv a16 a2 a1 w H kv hkb
end Go.Proofs.Ytfijohgbgadhiaa
