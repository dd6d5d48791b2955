/- Steps of a proof: PicF, PicC, PicG, PicH, PicI, PicJ, Bits, PitModes, together. -/
import Derived.Test.YtojmpdddfnkffaaGreatS1
import Derived.Laws.EntriesVeiled
import Derived.WalkKit
import Derived.Laws.BitsAll
import Derived.Test.YtojmpdddfnkffaaGreatRows
import Derived.Test.YtojmpdddfnkffaaGreatS0
/- pic: Out$1. -/
set_option maxHeartbeats 4000000
set_option maxRecDepth 20000
namespace Go.Proofs.YtojmpdddfnkffaaGreat.Pic
open Go.RowKit
set_option linter.unusedVariables false
set_option linter.unusedSimpArgs false

theorem o16_00_d (b k : Nat) (c d : Chip) (hok : d.ok) (v : Nat) (hv : v < 256) (h16 : v &&& 16 = 16) (h2 : v &&& 2 = 0) (h1 : v &&& 1 = 0) (w : World) (H : Pair w b c d) (kv : w.cell? ⟨k, 0, none⟩ = some (.int .u8 v)) (hkb : k ≠ b) :
    Calls Tryz.prog 101 #[.pointer (some ⟨b, 10, none⟩), .bool true, .pointer (some ⟨k, 0, none⟩)] w fun r w' => r = .returned (.tuple #[]) ∧ Pair w' b c (Chip.mk 0 0 0 d.up d.base false false 1 true false) ∧ Keeps (· = b) w w' := by
 obtain ⟨k0, k1, k2, k3, k4, k5, k6, k7, k8, k9, k10, k11, k12, k13, k14, k15, k16, k17, k18, k19, kf, klt⟩ := H.facts
 have e16 : bits .and .u8 (v : Int) 16 = 16 := by
  have h := u8_and_nat v 16 hv (by decide)
  rw [h16] at h
  exact h
 have e2 : bits .and .u8 (v : Int) 2 = 0 := by
  have h := u8_and_nat v 2 hv (by decide)
  rw [h2] at h
  exact h
 have e1 : bits .and .u8 (v : Int) 1 = 0 := by
  have h := u8_and_nat v 1 hv (by decide)
  rw [h1] at h
  exact h
 go_enter Tryz.func101, Tryz.ntmps101
 go_wp2_with fail
 go_region
 go_wp2_with fail
 go_returns
 refine ⟨rfl, ?_, by (repeat' (first | (with_reducible exact Keeps.refl _ _) | (with_reducible exact hk) | (with_reducible refine Keeps.setOne ?_ _ _) | (with_reducible refine Keeps.alloc ?_ _) | (with_reducible refine Keeps.drew ?_) | (with_reducible refine Keeps.drewN ?_ _)))⟩
 unfold Pair Chip.cells at H ⊢
 simp only [List.cons_append, List.nil_append] at H ⊢
 (first | (simp only [heap_set_map, putObj_cells, H, Option.map_some, List.set_cons_succ, List.set_cons_zero, heap_drewN, heap_drew]; done) | (simp only [heap_set_map, putObj_cells, H, Option.map_some, List.set_cons_succ, List.set_cons_zero, heap_drewN, heap_drew]; rfl))

theorem o16_01_d (b k : Nat) (c d : Chip) (hok : d.ok) (v : Nat) (hv : v < 256) (h16 : v &&& 16 = 16) (h2 : v &&& 2 = 0) (h1 : v &&& 1 = 1) (w : World) (H : Pair w b c d) (kv : w.cell? ⟨k, 0, none⟩ = some (.int .u8 v)) (hkb : k ≠ b) :
    Calls Tryz.prog 101 #[.pointer (some ⟨b, 10, none⟩), .bool true, .pointer (some ⟨k, 0, none⟩)] w fun r w' => r = .returned (.tuple #[]) ∧ Pair w' b c (Chip.mk 0 0 0 d.up d.base false false 1 true true) ∧ Keeps (· = b) w w' := by
 obtain ⟨k0, k1, k2, k3, k4, k5, k6, k7, k8, k9, k10, k11, k12, k13, k14, k15, k16, k17, k18, k19, kf, klt⟩ := H.facts
 have e16 : bits .and .u8 (v : Int) 16 = 16 := by
  have h := u8_and_nat v 16 hv (by decide)
  rw [h16] at h
  exact h
 have e2 : bits .and .u8 (v : Int) 2 = 0 := by
  have h := u8_and_nat v 2 hv (by decide)
  rw [h2] at h
  exact h
 have e1 : bits .and .u8 (v : Int) 1 = 1 := by
  have h := u8_and_nat v 1 hv (by decide)
  rw [h1] at h
  exact h
 go_enter Tryz.func101, Tryz.ntmps101
 go_wp2_with fail
 go_region
 go_wp2_with fail
 go_returns
 refine ⟨rfl, ?_, by (repeat' (first | (with_reducible exact Keeps.refl _ _) | (with_reducible exact hk) | (with_reducible refine Keeps.setOne ?_ _ _) | (with_reducible refine Keeps.alloc ?_ _) | (with_reducible refine Keeps.drew ?_) | (with_reducible refine Keeps.drewN ?_ _)))⟩
 unfold Pair Chip.cells at H ⊢
 simp only [List.cons_append, List.nil_append] at H ⊢
 (first | (simp only [heap_set_map, putObj_cells, H, Option.map_some, List.set_cons_succ, List.set_cons_zero, heap_drewN, heap_drew]; done) | (simp only [heap_set_map, putObj_cells, H, Option.map_some, List.set_cons_succ, List.set_cons_zero, heap_drewN, heap_drew]; rfl))

theorem o16_10_d (b k : Nat) (c d : Chip) (hok : d.ok) (v : Nat) (hv : v < 256) (h16 : v &&& 16 = 16) (h2 : v &&& 2 = 2) (h1 : v &&& 1 = 0) (w : World) (H : Pair w b c d) (kv : w.cell? ⟨k, 0, none⟩ = some (.int .u8 v)) (hkb : k ≠ b) :
    Calls Tryz.prog 101 #[.pointer (some ⟨b, 10, none⟩), .bool true, .pointer (some ⟨k, 0, none⟩)] w fun r w' => r = .returned (.tuple #[]) ∧ Pair w' b c (Chip.mk 0 0 0 d.up d.base false false 1 false false) ∧ Keeps (· = b) w w' := by
 obtain ⟨k0, k1, k2, k3, k4, k5, k6, k7, k8, k9, k10, k11, k12, k13, k14, k15, k16, k17, k18, k19, kf, klt⟩ := H.facts
 have e16 : bits .and .u8 (v : Int) 16 = 16 := by
  have h := u8_and_nat v 16 hv (by decide)
  rw [h16] at h
  exact h
 have e2 : bits .and .u8 (v : Int) 2 = 2 := by
  have h := u8_and_nat v 2 hv (by decide)
  rw [h2] at h
  exact h
 have e1 : bits .and .u8 (v : Int) 1 = 0 := by
  have h := u8_and_nat v 1 hv (by decide)
  rw [h1] at h
  exact h
 go_enter Tryz.func101, Tryz.ntmps101
 go_wp2_with fail
 go_region
 go_wp2_with fail
 go_returns
 refine ⟨rfl, ?_, by (repeat' (first | (with_reducible exact Keeps.refl _ _) | (with_reducible exact hk) | (with_reducible refine Keeps.setOne ?_ _ _) | (with_reducible refine Keeps.alloc ?_ _) | (with_reducible refine Keeps.drew ?_) | (with_reducible refine Keeps.drewN ?_ _)))⟩
 unfold Pair Chip.cells at H ⊢
 simp only [List.cons_append, List.nil_append] at H ⊢
 (first | (simp only [heap_set_map, putObj_cells, H, Option.map_some, List.set_cons_succ, List.set_cons_zero, heap_drewN, heap_drew]; done) | (simp only [heap_set_map, putObj_cells, H, Option.map_some, List.set_cons_succ, List.set_cons_zero, heap_drewN, heap_drew]; rfl))

theorem o16_11_d (b k : Nat) (c d : Chip) (hok : d.ok) (v : Nat) (hv : v < 256) (h16 : v &&& 16 = 16) (h2 : v &&& 2 = 2) (h1 : v &&& 1 = 1) (w : World) (H : Pair w b c d) (kv : w.cell? ⟨k, 0, none⟩ = some (.int .u8 v)) (hkb : k ≠ b) :
    Calls Tryz.prog 101 #[.pointer (some ⟨b, 10, none⟩), .bool true, .pointer (some ⟨k, 0, none⟩)] w fun r w' => r = .returned (.tuple #[]) ∧ Pair w' b c (Chip.mk 0 0 0 d.up d.base false false 1 false true) ∧ Keeps (· = b) w w' := by
 obtain ⟨k0, k1, k2, k3, k4, k5, k6, k7, k8, k9, k10, k11, k12, k13, k14, k15, k16, k17, k18, k19, kf, klt⟩ := H.facts
 have e16 : bits .and .u8 (v : Int) 16 = 16 := by
  have h := u8_and_nat v 16 hv (by decide)
  rw [h16] at h
  exact h
 have e2 : bits .and .u8 (v : Int) 2 = 2 := by
  have h := u8_and_nat v 2 hv (by decide)
  rw [h2] at h
  exact h
 have e1 : bits .and .u8 (v : Int) 1 = 1 := by
  have h := u8_and_nat v 1 hv (by decide)
  rw [h1] at h
  exact h
 go_enter Tryz.func101, Tryz.ntmps101
 go_wp2_with fail
 go_region
 go_wp2_with fail
 go_returns
 refine ⟨rfl, ?_, by (repeat' (first | (with_reducible exact Keeps.refl _ _) | (with_reducible exact hk) | (with_reducible refine Keeps.setOne ?_ _ _) | (with_reducible refine Keeps.alloc ?_ _) | (with_reducible refine Keeps.drew ?_) | (with_reducible refine Keeps.drewN ?_ _)))⟩
 unfold Pair Chip.cells at H ⊢
 simp only [List.cons_append, List.nil_append] at H ⊢
 (first | (simp only [heap_set_map, putObj_cells, H, Option.map_some, List.set_cons_succ, List.set_cons_zero, heap_drewN, heap_drew]; done) | (simp only [heap_set_map, putObj_cells, H, Option.map_some, List.set_cons_succ, List.set_cons_zero, heap_drewN, heap_drew]; rfl))

theorem o8_0_d (b k : Nat) (c d : Chip) (hok : d.ok) (v : Nat) (hv : v < 256) (h16 : v &&& 16 = 0) (h8 : v &&& 8 = 8) (h2 : v &&& 2 = 2) (h1 : v &&& 1 = 0) (w : World) (H : Pair w b c d) (kv : w.cell? ⟨k, 0, none⟩ = some (.int .u8 v)) (hkb : k ≠ b) :
    Calls Tryz.prog 101 #[.pointer (some ⟨b, 10, none⟩), .bool true, .pointer (some ⟨k, 0, none⟩)] w fun r w' => r = .returned (.tuple #[]) ∧ Pair w' b c ({ d with told := false }) ∧ Keeps (· = b) w w' := by
 obtain ⟨k0, k1, k2, k3, k4, k5, k6, k7, k8, k9, k10, k11, k12, k13, k14, k15, k16, k17, k18, k19, kf, klt⟩ := H.facts
 have e16 : bits .and .u8 (v : Int) 16 = 0 := by
  have h := u8_and_nat v 16 hv (by decide)
  rw [h16] at h
  exact h
 have e8 : bits .and .u8 (v : Int) 8 = 8 := by
  have h := u8_and_nat v 8 hv (by decide)
  rw [h8] at h
  exact h
 have e2 : bits .and .u8 (v : Int) 2 = 2 := by
  have h := u8_and_nat v 2 hv (by decide)
  rw [h2] at h
  exact h
 have e1 : bits .and .u8 (v : Int) 1 = 0 := by
  have h := u8_and_nat v 1 hv (by decide)
  rw [h1] at h
  exact h
 go_enter Tryz.func101, Tryz.ntmps101
 go_wp2_with fail
 go_returns
 refine ⟨rfl, ?_, by (repeat' (first | (with_reducible exact Keeps.refl _ _) | (with_reducible exact hk) | (with_reducible refine Keeps.setOne ?_ _ _) | (with_reducible refine Keeps.alloc ?_ _) | (with_reducible refine Keeps.drew ?_) | (with_reducible refine Keeps.drewN ?_ _)))⟩
 unfold Pair Chip.cells at H ⊢
 simp only [List.cons_append, List.nil_append] at H ⊢
 (first | (simp only [heap_set_map, putObj_cells, H, Option.map_some, List.set_cons_succ, List.set_cons_zero, heap_drewN, heap_drew]; done) | (simp only [heap_set_map, putObj_cells, H, Option.map_some, List.set_cons_succ, List.set_cons_zero, heap_drewN, heap_drew]; rfl))

theorem o8_1_d (b k : Nat) (c d : Chip) (hok : d.ok) (v : Nat) (hv : v < 256) (h16 : v &&& 16 = 0) (h8 : v &&& 8 = 8) (h2 : v &&& 2 = 2) (h1 : v &&& 1 = 1) (w : World) (H : Pair w b c d) (kv : w.cell? ⟨k, 0, none⟩ = some (.int .u8 v)) (hkb : k ≠ b) :
    Calls Tryz.prog 101 #[.pointer (some ⟨b, 10, none⟩), .bool true, .pointer (some ⟨k, 0, none⟩)] w fun r w' => r = .returned (.tuple #[]) ∧ Pair w' b c ({ d with told := true }) ∧ Keeps (· = b) w w' := by
 obtain ⟨k0, k1, k2, k3, k4, k5, k6, k7, k8, k9, k10, k11, k12, k13, k14, k15, k16, k17, k18, k19, kf, klt⟩ := H.facts
 have e16 : bits .and .u8 (v : Int) 16 = 0 := by
  have h := u8_and_nat v 16 hv (by decide)
  rw [h16] at h
  exact h
 have e8 : bits .and .u8 (v : Int) 8 = 8 := by
  have h := u8_and_nat v 8 hv (by decide)
  rw [h8] at h
  exact h
 have e2 : bits .and .u8 (v : Int) 2 = 2 := by
  have h := u8_and_nat v 2 hv (by decide)
  rw [h2] at h
  exact h
 have e1 : bits .and .u8 (v : Int) 1 = 1 := by
  have h := u8_and_nat v 1 hv (by decide)
  rw [h1] at h
  exact h
 go_enter Tryz.func101, Tryz.ntmps101
 go_wp2_with fail
 go_returns
 refine ⟨rfl, ?_, by (repeat' (first | (with_reducible exact Keeps.refl _ _) | (with_reducible exact hk) | (with_reducible refine Keeps.setOne ?_ _ _) | (with_reducible refine Keeps.alloc ?_ _) | (with_reducible refine Keeps.drew ?_) | (with_reducible refine Keeps.drewN ?_ _)))⟩
 unfold Pair Chip.cells at H ⊢
 simp only [List.cons_append, List.nil_append] at H ⊢
 (first | (simp only [heap_set_map, putObj_cells, H, Option.map_some, List.set_cons_succ, List.set_cons_zero, heap_drewN, heap_drew]; done) | (simp only [heap_set_map, putObj_cells, H, Option.map_some, List.set_cons_succ, List.set_cons_zero, heap_drewN, heap_drew]; rfl))

theorem o8_n_d (b k : Nat) (c d : Chip) (hok : d.ok) (v : Nat) (hv : v < 256) (h16 : v &&& 16 = 0) (h8 : v &&& 8 = 8) (h2 : v &&& 2 = 0) (w : World) (H : Pair w b c d) (kv : w.cell? ⟨k, 0, none⟩ = some (.int .u8 v)) (hkb : k ≠ b) :
    Calls Tryz.prog 101 #[.pointer (some ⟨b, 10, none⟩), .bool true, .pointer (some ⟨k, 0, none⟩)] w fun r w' => r = .returned (.tuple #[]) ∧ Pair w' b c (d) ∧ Keeps (· = b) w w' := by
 obtain ⟨k0, k1, k2, k3, k4, k5, k6, k7, k8, k9, k10, k11, k12, k13, k14, k15, k16, k17, k18, k19, kf, klt⟩ := H.facts
 have e16 : bits .and .u8 (v : Int) 16 = 0 := by
  have h := u8_and_nat v 16 hv (by decide)
  rw [h16] at h
  exact h
 have e8 : bits .and .u8 (v : Int) 8 = 8 := by
  have h := u8_and_nat v 8 hv (by decide)
  rw [h8] at h
  exact h
 have e2 : bits .and .u8 (v : Int) 2 = 0 := by
  have h := u8_and_nat v 2 hv (by decide)
  rw [h2] at h
  exact h
 go_enter Tryz.func101, Tryz.ntmps101
 go_wp2_with fail
 go_returns
 exact ⟨rfl, H, Keeps.refl _ _⟩

theorem o1_d (b k : Nat) (c d : Chip) (hok : d.ok) (v : Nat) (hv : v < 256) (h16 : v &&& 16 = 0) (h8 : v &&& 8 = 0) (h5 : v / 32 = 1) (hz : 0 < d.served) (w : World) (H : Pair w b c d) (kv : w.cell? ⟨k, 0, none⟩ = some (.int .u8 v)) (hkb : k ≠ b) :
    Calls Tryz.prog 101 #[.pointer (some ⟨b, 10, none⟩), .bool true, .pointer (some ⟨k, 0, none⟩)] w fun r w' => r = .returned (.tuple #[]) ∧ Pair w' b c ({ d with served := d.served &&& ((d.served + 255) % 256) }) ∧ Keeps (· = b) w w' := by
 obtain ⟨k0, k1, k2, k3, k4, k5, k6, k7, k8, k9, k10, k11, k12, k13, k14, k15, k16, k17, k18, k19, kf, klt⟩ := H.facts
 have e16 : bits .and .u8 (v : Int) 16 = 0 := by
  have h := u8_and_nat v 16 hv (by decide)
  rw [h16] at h
  exact h
 have e8 : bits .and .u8 (v : Int) 8 = 0 := by
  have h := u8_and_nat v 8 hv (by decide)
  rw [h8] at h
  exact h
 have hs := hok.served
 have es : bits .and .u8 (d.served : Int) ((d.served : Int) - 1) = ((d.served &&& ((d.served + 255) % 256) : Nat) : Int) := by
  have h := u8_and_nat d.served ((d.served + 255) % 256) hs (Nat.mod_lt _ (by decide))
  rw [← h]
  congr 1
  omega
 go_enter Tryz.func101, Tryz.ntmps101
 go_wp2_with fail
 go_region
 go_wp2_with fail
 go_returns
 refine ⟨rfl, ?_, by (repeat' (first | (with_reducible exact Keeps.refl _ _) | (with_reducible exact hk) | (with_reducible refine Keeps.setOne ?_ _ _) | (with_reducible refine Keeps.alloc ?_ _) | (with_reducible refine Keeps.drew ?_) | (with_reducible refine Keeps.drewN ?_ _)))⟩
 unfold Pair Chip.cells at H ⊢
 simp only [List.cons_append, List.nil_append] at H ⊢
 (first | (simp only [heap_set_map, putObj_cells, H, Option.map_some, List.set_cons_succ, List.set_cons_zero, heap_drewN, heap_drew]; done) | (simp only [heap_set_map, putObj_cells, H, Option.map_some, List.set_cons_succ, List.set_cons_zero, heap_drewN, heap_drew]; rfl))

theorem o1z_d (b k : Nat) (c d : Chip) (hok : d.ok) (v : Nat) (hv : v < 256) (h16 : v &&& 16 = 0) (h8 : v &&& 8 = 0) (h5 : v / 32 = 1) (hz : d.served = 0) (w : World) (H : Pair w b c d) (kv : w.cell? ⟨k, 0, none⟩ = some (.int .u8 v)) (hkb : k ≠ b) :
    Calls Tryz.prog 101 #[.pointer (some ⟨b, 10, none⟩), .bool true, .pointer (some ⟨k, 0, none⟩)] w fun r w' => r = .returned (.tuple #[]) ∧ Pair w' b c ({ d with served := 0 }) ∧ Keeps (· = b) w w' := by
 obtain ⟨k0, k1, k2, k3, k4, k5, k6, k7, k8, k9, k10, k11, k12, k13, k14, k15, k16, k17, k18, k19, kf, klt⟩ := H.facts
 have e16 : bits .and .u8 (v : Int) 16 = 0 := by
  have h := u8_and_nat v 16 hv (by decide)
  rw [h16] at h
  exact h
 have e8 : bits .and .u8 (v : Int) 8 = 0 := by
  have h := u8_and_nat v 8 hv (by decide)
  rw [h8] at h
  exact h
 have hs := hok.served
 have es : bits .and .u8 0 255 = 0 := by decide
 rw [hz] at k11
 go_enter Tryz.func101, Tryz.ntmps101
 go_wp2_with fail
 go_region
 go_wp2_with fail
 go_returns
 refine ⟨rfl, ?_, by (repeat' (first | (with_reducible exact Keeps.refl _ _) | (with_reducible exact hk) | (with_reducible refine Keeps.setOne ?_ _ _) | (with_reducible refine Keeps.alloc ?_ _) | (with_reducible refine Keeps.drew ?_) | (with_reducible refine Keeps.drewN ?_ _)))⟩
 unfold Pair Chip.cells at H ⊢
 simp only [List.cons_append, List.nil_append] at H ⊢
 (first | (simp only [heap_set_map, putObj_cells, H, Option.map_some, List.set_cons_succ, List.set_cons_zero, heap_drewN, heap_drew]; done) | (simp only [heap_set_map, putObj_cells, H, Option.map_some, List.set_cons_succ, List.set_cons_zero, heap_drewN, heap_drew]; rfl))

theorem o3_0_d (b k : Nat) (c d : Chip) (hok : d.ok) (v : Nat) (hv : v < 256) (h16 : v &&& 16 = 0) (h8 : v &&& 8 = 0) (h5 : v / 32 = 3) (h7 : v &&& 7 = 0) (w : World) (H : Pair w b c d) (kv : w.cell? ⟨k, 0, none⟩ = some (.int .u8 v)) (hkb : k ≠ b) :
    Calls Tryz.prog 101 #[.pointer (some ⟨b, 10, none⟩), .bool true, .pointer (some ⟨k, 0, none⟩)] w fun r w' => r = .returned (.tuple #[]) ∧ Pair w' b c ({ d with served := d.served &&& 254 }) ∧ Keeps (· = b) w w' := by
 obtain ⟨k0, k1, k2, k3, k4, k5, k6, k7, k8, k9, k10, k11, k12, k13, k14, k15, k16, k17, k18, k19, kf, klt⟩ := H.facts
 have e16 : bits .and .u8 (v : Int) 16 = 0 := by
  have h := u8_and_nat v 16 hv (by decide)
  rw [h16] at h
  exact h
 have e8 : bits .and .u8 (v : Int) 8 = 0 := by
  have h := u8_and_nat v 8 hv (by decide)
  rw [h8] at h
  exact h
 have e7 : bits .and .u8 (v : Int) 7 = 0 := by
  have h := u8_and_nat v 7 hv (by decide)
  rw [h7] at h
  exact h
 have es : bits .andNot .u8 (d.served : Int) 1 = ((d.served &&& 254 : Nat) : Int) := u8_andNot_nat d.served 1 hok.served (by decide)
 go_enter Tryz.func101, Tryz.ntmps101
 go_wp2_with fail
 go_region
 go_wp2_with fail
 go_returns
 refine ⟨rfl, ?_, by (repeat' (first | (with_reducible exact Keeps.refl _ _) | (with_reducible exact hk) | (with_reducible refine Keeps.setOne ?_ _ _) | (with_reducible refine Keeps.alloc ?_ _) | (with_reducible refine Keeps.drew ?_) | (with_reducible refine Keeps.drewN ?_ _)))⟩
 unfold Pair Chip.cells at H ⊢
 simp only [List.cons_append, List.nil_append] at H ⊢
 (first | (simp only [heap_set_map, putObj_cells, H, Option.map_some, List.set_cons_succ, List.set_cons_zero, heap_drewN, heap_drew]; done) | (simp only [heap_set_map, putObj_cells, H, Option.map_some, List.set_cons_succ, List.set_cons_zero, heap_drewN, heap_drew]; rfl))

theorem o3_1_d (b k : Nat) (c d : Chip) (hok : d.ok) (v : Nat) (hv : v < 256) (h16 : v &&& 16 = 0) (h8 : v &&& 8 = 0) (h5 : v / 32 = 3) (h7 : v &&& 7 = 1) (w : World) (H : Pair w b c d) (kv : w.cell? ⟨k, 0, none⟩ = some (.int .u8 v)) (hkb : k ≠ b) :
    Calls Tryz.prog 101 #[.pointer (some ⟨b, 10, none⟩), .bool true, .pointer (some ⟨k, 0, none⟩)] w fun r w' => r = .returned (.tuple #[]) ∧ Pair w' b c ({ d with served := d.served &&& 253 }) ∧ Keeps (· = b) w w' := by
 obtain ⟨k0, k1, k2, k3, k4, k5, k6, k7, k8, k9, k10, k11, k12, k13, k14, k15, k16, k17, k18, k19, kf, klt⟩ := H.facts
 have e16 : bits .and .u8 (v : Int) 16 = 0 := by
  have h := u8_and_nat v 16 hv (by decide)
  rw [h16] at h
  exact h
 have e8 : bits .and .u8 (v : Int) 8 = 0 := by
  have h := u8_and_nat v 8 hv (by decide)
  rw [h8] at h
  exact h
 have e7 : bits .and .u8 (v : Int) 7 = 1 := by
  have h := u8_and_nat v 7 hv (by decide)
  rw [h7] at h
  exact h
 have es : bits .andNot .u8 (d.served : Int) 2 = ((d.served &&& 253 : Nat) : Int) := u8_andNot_nat d.served 2 hok.served (by decide)
 go_enter Tryz.func101, Tryz.ntmps101
 go_wp2_with fail
 go_region
 go_wp2_with fail
 go_returns
 refine ⟨rfl, ?_, by (repeat' (first | (with_reducible exact Keeps.refl _ _) | (with_reducible exact hk) | (with_reducible refine Keeps.setOne ?_ _ _) | (with_reducible refine Keeps.alloc ?_ _) | (with_reducible refine Keeps.drew ?_) | (with_reducible refine Keeps.drewN ?_ _)))⟩
 unfold Pair Chip.cells at H ⊢
 simp only [List.cons_append, List.nil_append] at H ⊢
 (first | (simp only [heap_set_map, putObj_cells, H, Option.map_some, List.set_cons_succ, List.set_cons_zero, heap_drewN, heap_drew]; done) | (simp only [heap_set_map, putObj_cells, H, Option.map_some, List.set_cons_succ, List.set_cons_zero, heap_drewN, heap_drew]; rfl))

theorem o3_2_d (b k : Nat) (c d : Chip) (hok : d.ok) (v : Nat) (hv : v < 256) (h16 : v &&& 16 = 0) (h8 : v &&& 8 = 0) (h5 : v / 32 = 3) (h7 : v &&& 7 = 2) (w : World) (H : Pair w b c d) (kv : w.cell? ⟨k, 0, none⟩ = some (.int .u8 v)) (hkb : k ≠ b) :
    Calls Tryz.prog 101 #[.pointer (some ⟨b, 10, none⟩), .bool true, .pointer (some ⟨k, 0, none⟩)] w fun r w' => r = .returned (.tuple #[]) ∧ Pair w' b c ({ d with served := d.served &&& 251 }) ∧ Keeps (· = b) w w' := by
 obtain ⟨k0, k1, k2, k3, k4, k5, k6, k7, k8, k9, k10, k11, k12, k13, k14, k15, k16, k17, k18, k19, kf, klt⟩ := H.facts
 have e16 : bits .and .u8 (v : Int) 16 = 0 := by
  have h := u8_and_nat v 16 hv (by decide)
  rw [h16] at h
  exact h
 have e8 : bits .and .u8 (v : Int) 8 = 0 := by
  have h := u8_and_nat v 8 hv (by decide)
  rw [h8] at h
  exact h
 have e7 : bits .and .u8 (v : Int) 7 = 2 := by
  have h := u8_and_nat v 7 hv (by decide)
  rw [h7] at h
  exact h
 have es : bits .andNot .u8 (d.served : Int) 4 = ((d.served &&& 251 : Nat) : Int) := u8_andNot_nat d.served 4 hok.served (by decide)
 go_enter Tryz.func101, Tryz.ntmps101
 go_wp2_with fail
 go_region
 go_wp2_with fail
 go_returns
 refine ⟨rfl, ?_, by (repeat' (first | (with_reducible exact Keeps.refl _ _) | (with_reducible exact hk) | (with_reducible refine Keeps.setOne ?_ _ _) | (with_reducible refine Keeps.alloc ?_ _) | (with_reducible refine Keeps.drew ?_) | (with_reducible refine Keeps.drewN ?_ _)))⟩
 unfold Pair Chip.cells at H ⊢
 simp only [List.cons_append, List.nil_append] at H ⊢
 (first | (simp only [heap_set_map, putObj_cells, H, Option.map_some, List.set_cons_succ, List.set_cons_zero, heap_drewN, heap_drew]; done) | (simp only [heap_set_map, putObj_cells, H, Option.map_some, List.set_cons_succ, List.set_cons_zero, heap_drewN, heap_drew]; rfl))

theorem o3_3_d (b k : Nat) (c d : Chip) (hok : d.ok) (v : Nat) (hv : v < 256) (h16 : v &&& 16 = 0) (h8 : v &&& 8 = 0) (h5 : v / 32 = 3) (h7 : v &&& 7 = 3) (w : World) (H : Pair w b c d) (kv : w.cell? ⟨k, 0, none⟩ = some (.int .u8 v)) (hkb : k ≠ b) :
    Calls Tryz.prog 101 #[.pointer (some ⟨b, 10, none⟩), .bool true, .pointer (some ⟨k, 0, none⟩)] w fun r w' => r = .returned (.tuple #[]) ∧ Pair w' b c ({ d with served := d.served &&& 247 }) ∧ Keeps (· = b) w w' := by
 obtain ⟨k0, k1, k2, k3, k4, k5, k6, k7, k8, k9, k10, k11, k12, k13, k14, k15, k16, k17, k18, k19, kf, klt⟩ := H.facts
 have e16 : bits .and .u8 (v : Int) 16 = 0 := by
  have h := u8_and_nat v 16 hv (by decide)
  rw [h16] at h
  exact h
 have e8 : bits .and .u8 (v : Int) 8 = 0 := by
  have h := u8_and_nat v 8 hv (by decide)
  rw [h8] at h
  exact h
 have e7 : bits .and .u8 (v : Int) 7 = 3 := by
  have h := u8_and_nat v 7 hv (by decide)
  rw [h7] at h
  exact h
 have es : bits .andNot .u8 (d.served : Int) 8 = ((d.served &&& 247 : Nat) : Int) := u8_andNot_nat d.served 8 hok.served (by decide)
 go_enter Tryz.func101, Tryz.ntmps101
 go_wp2_with fail
 go_region
 go_wp2_with fail
 go_returns
 refine ⟨rfl, ?_, by (repeat' (first | (with_reducible exact Keeps.refl _ _) | (with_reducible exact hk) | (with_reducible refine Keeps.setOne ?_ _ _) | (with_reducible refine Keeps.alloc ?_ _) | (with_reducible refine Keeps.drew ?_) | (with_reducible refine Keeps.drewN ?_ _)))⟩
 unfold Pair Chip.cells at H ⊢
 simp only [List.cons_append, List.nil_append] at H ⊢
 (first | (simp only [heap_set_map, putObj_cells, H, Option.map_some, List.set_cons_succ, List.set_cons_zero, heap_drewN, heap_drew]; done) | (simp only [heap_set_map, putObj_cells, H, Option.map_some, List.set_cons_succ, List.set_cons_zero, heap_drewN, heap_drew]; rfl))

theorem o3_4_d (b k : Nat) (c d : Chip) (hok : d.ok) (v : Nat) (hv : v < 256) (h16 : v &&& 16 = 0) (h8 : v &&& 8 = 0) (h5 : v / 32 = 3) (h7 : v &&& 7 = 4) (w : World) (H : Pair w b c d) (kv : w.cell? ⟨k, 0, none⟩ = some (.int .u8 v)) (hkb : k ≠ b) :
    Calls Tryz.prog 101 #[.pointer (some ⟨b, 10, none⟩), .bool true, .pointer (some ⟨k, 0, none⟩)] w fun r w' => r = .returned (.tuple #[]) ∧ Pair w' b c ({ d with served := d.served &&& 239 }) ∧ Keeps (· = b) w w' := by
 obtain ⟨k0, k1, k2, k3, k4, k5, k6, k7, k8, k9, k10, k11, k12, k13, k14, k15, k16, k17, k18, k19, kf, klt⟩ := H.facts
 have e16 : bits .and .u8 (v : Int) 16 = 0 := by
  have h := u8_and_nat v 16 hv (by decide)
  rw [h16] at h
  exact h
 have e8 : bits .and .u8 (v : Int) 8 = 0 := by
  have h := u8_and_nat v 8 hv (by decide)
  rw [h8] at h
  exact h
 have e7 : bits .and .u8 (v : Int) 7 = 4 := by
  have h := u8_and_nat v 7 hv (by decide)
  rw [h7] at h
  exact h
 have es : bits .andNot .u8 (d.served : Int) 16 = ((d.served &&& 239 : Nat) : Int) := u8_andNot_nat d.served 16 hok.served (by decide)
 go_enter Tryz.func101, Tryz.ntmps101
 go_wp2_with fail
 go_region
 go_wp2_with fail
 go_returns
 refine ⟨rfl, ?_, by (repeat' (first | (with_reducible exact Keeps.refl _ _) | (with_reducible exact hk) | (with_reducible refine Keeps.setOne ?_ _ _) | (with_reducible refine Keeps.alloc ?_ _) | (with_reducible refine Keeps.drew ?_) | (with_reducible refine Keeps.drewN ?_ _)))⟩
 unfold Pair Chip.cells at H ⊢
 simp only [List.cons_append, List.nil_append] at H ⊢
 (first | (simp only [heap_set_map, putObj_cells, H, Option.map_some, List.set_cons_succ, List.set_cons_zero, heap_drewN, heap_drew]; done) | (simp only [heap_set_map, putObj_cells, H, Option.map_some, List.set_cons_succ, List.set_cons_zero, heap_drewN, heap_drew]; rfl))

theorem o3_5_d (b k : Nat) (c d : Chip) (hok : d.ok) (v : Nat) (hv : v < 256) (h16 : v &&& 16 = 0) (h8 : v &&& 8 = 0) (h5 : v / 32 = 3) (h7 : v &&& 7 = 5) (w : World) (H : Pair w b c d) (kv : w.cell? ⟨k, 0, none⟩ = some (.int .u8 v)) (hkb : k ≠ b) :
    Calls Tryz.prog 101 #[.pointer (some ⟨b, 10, none⟩), .bool true, .pointer (some ⟨k, 0, none⟩)] w fun r w' => r = .returned (.tuple #[]) ∧ Pair w' b c ({ d with served := d.served &&& 223 }) ∧ Keeps (· = b) w w' := by
 obtain ⟨k0, k1, k2, k3, k4, k5, k6, k7, k8, k9, k10, k11, k12, k13, k14, k15, k16, k17, k18, k19, kf, klt⟩ := H.facts
 have e16 : bits .and .u8 (v : Int) 16 = 0 := by
  have h := u8_and_nat v 16 hv (by decide)
  rw [h16] at h
  exact h
 have e8 : bits .and .u8 (v : Int) 8 = 0 := by
  have h := u8_and_nat v 8 hv (by decide)
  rw [h8] at h
  exact h
 have e7 : bits .and .u8 (v : Int) 7 = 5 := by
  have h := u8_and_nat v 7 hv (by decide)
  rw [h7] at h
  exact h
 have es : bits .andNot .u8 (d.served : Int) 32 = ((d.served &&& 223 : Nat) : Int) := u8_andNot_nat d.served 32 hok.served (by decide)
 go_enter Tryz.func101, Tryz.ntmps101
 go_wp2_with fail
 go_region
 go_wp2_with fail
 go_returns
 refine ⟨rfl, ?_, by (repeat' (first | (with_reducible exact Keeps.refl _ _) | (with_reducible exact hk) | (with_reducible refine Keeps.setOne ?_ _ _) | (with_reducible refine Keeps.alloc ?_ _) | (with_reducible refine Keeps.drew ?_) | (with_reducible refine Keeps.drewN ?_ _)))⟩
 unfold Pair Chip.cells at H ⊢
 simp only [List.cons_append, List.nil_append] at H ⊢
 (first | (simp only [heap_set_map, putObj_cells, H, Option.map_some, List.set_cons_succ, List.set_cons_zero, heap_drewN, heap_drew]; done) | (simp only [heap_set_map, putObj_cells, H, Option.map_some, List.set_cons_succ, List.set_cons_zero, heap_drewN, heap_drew]; rfl))

theorem o3_6_d (b k : Nat) (c d : Chip) (hok : d.ok) (v : Nat) (hv : v < 256) (h16 : v &&& 16 = 0) (h8 : v &&& 8 = 0) (h5 : v / 32 = 3) (h7 : v &&& 7 = 6) (w : World) (H : Pair w b c d) (kv : w.cell? ⟨k, 0, none⟩ = some (.int .u8 v)) (hkb : k ≠ b) :
    Calls Tryz.prog 101 #[.pointer (some ⟨b, 10, none⟩), .bool true, .pointer (some ⟨k, 0, none⟩)] w fun r w' => r = .returned (.tuple #[]) ∧ Pair w' b c ({ d with served := d.served &&& 191 }) ∧ Keeps (· = b) w w' := by
 obtain ⟨k0, k1, k2, k3, k4, k5, k6, k7, k8, k9, k10, k11, k12, k13, k14, k15, k16, k17, k18, k19, kf, klt⟩ := H.facts
 have e16 : bits .and .u8 (v : Int) 16 = 0 := by
  have h := u8_and_nat v 16 hv (by decide)
  rw [h16] at h
  exact h
 have e8 : bits .and .u8 (v : Int) 8 = 0 := by
  have h := u8_and_nat v 8 hv (by decide)
  rw [h8] at h
  exact h
 have e7 : bits .and .u8 (v : Int) 7 = 6 := by
  have h := u8_and_nat v 7 hv (by decide)
  rw [h7] at h
  exact h
 have es : bits .andNot .u8 (d.served : Int) 64 = ((d.served &&& 191 : Nat) : Int) := u8_andNot_nat d.served 64 hok.served (by decide)
 go_enter Tryz.func101, Tryz.ntmps101
 go_wp2_with fail
 go_region
 go_wp2_with fail
 go_returns
 refine ⟨rfl, ?_, by (repeat' (first | (with_reducible exact Keeps.refl _ _) | (with_reducible exact hk) | (with_reducible refine Keeps.setOne ?_ _ _) | (with_reducible refine Keeps.alloc ?_ _) | (with_reducible refine Keeps.drew ?_) | (with_reducible refine Keeps.drewN ?_ _)))⟩
 unfold Pair Chip.cells at H ⊢
 simp only [List.cons_append, List.nil_append] at H ⊢
 (first | (simp only [heap_set_map, putObj_cells, H, Option.map_some, List.set_cons_succ, List.set_cons_zero, heap_drewN, heap_drew]; done) | (simp only [heap_set_map, putObj_cells, H, Option.map_some, List.set_cons_succ, List.set_cons_zero, heap_drewN, heap_drew]; rfl))

theorem o3_7_d (b k : Nat) (c d : Chip) (hok : d.ok) (v : Nat) (hv : v < 256) (h16 : v &&& 16 = 0) (h8 : v &&& 8 = 0) (h5 : v / 32 = 3) (h7 : v &&& 7 = 7) (w : World) (H : Pair w b c d) (kv : w.cell? ⟨k, 0, none⟩ = some (.int .u8 v)) (hkb : k ≠ b) :
    Calls Tryz.prog 101 #[.pointer (some ⟨b, 10, none⟩), .bool true, .pointer (some ⟨k, 0, none⟩)] w fun r w' => r = .returned (.tuple #[]) ∧ Pair w' b c ({ d with served := d.served &&& 127 }) ∧ Keeps (· = b) w w' := by
 obtain ⟨k0, k1, k2, k3, k4, k5, k6, k7, k8, k9, k10, k11, k12, k13, k14, k15, k16, k17, k18, k19, kf, klt⟩ := H.facts
 have e16 : bits .and .u8 (v : Int) 16 = 0 := by
  have h := u8_and_nat v 16 hv (by decide)
  rw [h16] at h
  exact h
 have e8 : bits .and .u8 (v : Int) 8 = 0 := by
  have h := u8_and_nat v 8 hv (by decide)
  rw [h8] at h
  exact h
 have e7 : bits .and .u8 (v : Int) 7 = 7 := by
  have h := u8_and_nat v 7 hv (by decide)
  rw [h7] at h
  exact h
 have es : bits .andNot .u8 (d.served : Int) 128 = ((d.served &&& 127 : Nat) : Int) := u8_andNot_nat d.served 128 hok.served (by decide)
 go_enter Tryz.func101, Tryz.ntmps101
 go_wp2_with fail
 go_region
 go_wp2_with fail
 go_returns
 refine ⟨rfl, ?_, by (repeat' (first | (with_reducible exact Keeps.refl _ _) | (with_reducible exact hk) | (with_reducible refine Keeps.setOne ?_ _ _) | (with_reducible refine Keeps.alloc ?_ _) | (with_reducible refine Keeps.drew ?_) | (with_reducible refine Keeps.drewN ?_ _)))⟩
 unfold Pair Chip.cells at H ⊢
 simp only [List.cons_append, List.nil_append] at H ⊢
 (first | (simp only [heap_set_map, putObj_cells, H, Option.map_some, List.set_cons_succ, List.set_cons_zero, heap_drewN, heap_drew]; done) | (simp only [heap_set_map, putObj_cells, H, Option.map_some, List.set_cons_succ, List.set_cons_zero, heap_drewN, heap_drew]; rfl))

theorem on_d (b k : Nat) (c d : Chip) (hok : d.ok) (v : Nat) (hv : v < 256) (h16 : v &&& 16 = 0) (h8 : v &&& 8 = 0) (h5 : v / 32 ≠ 1) (h6 : v / 32 ≠ 3) (w : World) (H : Pair w b c d) (kv : w.cell? ⟨k, 0, none⟩ = some (.int .u8 v)) (hkb : k ≠ b) :
    Calls Tryz.prog 101 #[.pointer (some ⟨b, 10, none⟩), .bool true, .pointer (some ⟨k, 0, none⟩)] w fun r w' => r = .returned (.tuple #[]) ∧ Pair w' b c (d) ∧ Keeps (· = b) w w' := by
 obtain ⟨k0, k1, k2, k3, k4, k5, k6, k7, k8, k9, k10, k11, k12, k13, k14, k15, k16, k17, k18, k19, kf, klt⟩ := H.facts
 have e16 : bits .and .u8 (v : Int) 16 = 0 := by
  have h := u8_and_nat v 16 hv (by decide)
  rw [h16] at h
  exact h
 have e8 : bits .and .u8 (v : Int) 8 = 0 := by
  have h := u8_and_nat v 8 hv (by decide)
  rw [h8] at h
  exact h
 go_enter Tryz.func101, Tryz.ntmps101
 go_wp2_with fail
 go_returns
 exact ⟨rfl, H, Keeps.refl _ _⟩

theorem d0_d (b k : Nat) (c d : Chip) (hok : d.ok) (v : Nat) (hv : v < 256) (h0 : d.stage = 0) (w : World) (H : Pair w b c d) (kv : w.cell? ⟨k, 0, none⟩ = some (.int .u8 v)) (hkb : k ≠ b) :
    Calls Tryz.prog 101 #[.pointer (some ⟨b, 10, none⟩), .bool false, .pointer (some ⟨k, 0, none⟩)] w fun r w' => r = .returned (.tuple #[]) ∧ Pair w' b c ({ d with masked := v }) ∧ Keeps (· = b) w w' := by
 obtain ⟨k0, k1, k2, k3, k4, k5, k6, k7, k8, k9, k10, k11, k12, k13, k14, k15, k16, k17, k18, k19, kf, klt⟩ := H.facts
 rw [h0] at k17
 replace k17 : w.cell? ⟨b, 17, none⟩ = some (.int .i64 0) := k17
 go_enter Tryz.func101, Tryz.ntmps101
 go_wp2_with fail
 go_returns
 refine ⟨rfl, ?_, by (repeat' (first | (with_reducible exact Keeps.refl _ _) | (with_reducible exact hk) | (with_reducible refine Keeps.setOne ?_ _ _) | (with_reducible refine Keeps.alloc ?_ _) | (with_reducible refine Keeps.drew ?_) | (with_reducible refine Keeps.drewN ?_ _)))⟩
 unfold Pair Chip.cells at H ⊢
 simp only [List.cons_append, List.nil_append] at H ⊢
 (first | (simp only [heap_set_map, putObj_cells, H, Option.map_some, List.set_cons_succ, List.set_cons_zero, heap_drewN, heap_drew]; done) | (simp only [heap_set_map, putObj_cells, H, Option.map_some, List.set_cons_succ, List.set_cons_zero, heap_drewN, heap_drew]; rfl))

theorem d1_d (b k : Nat) (c d : Chip) (hok : d.ok) (v : Nat) (hv : v < 256) (h0 : d.stage = 1)  (w : World) (H : Pair w b c d) (kv : w.cell? ⟨k, 0, none⟩ = some (.int .u8 v)) (hkb : k ≠ b) :
    Calls Tryz.prog 101 #[.pointer (some ⟨b, 10, none⟩), .bool false, .pointer (some ⟨k, 0, none⟩)] w fun r w' => r = .returned (.tuple #[]) ∧ Pair w' b c (onC ({ d with base := v &&& 248 })) ∧ Keeps (· = b) w w' := by
 obtain ⟨k0, k1, k2, k3, k4, k5, k6, k7, k8, k9, k10, k11, k12, k13, k14, k15, k16, k17, k18, k19, kf, klt⟩ := H.facts
 have hst : d.stage = 1 := h0
 rw [h0] at k17
 replace k17 : w.cell? ⟨b, 17, none⟩ = some (.int .i64 1) := k17
 have ea : bits .andNot .u8 (v : Int) 7 = ((v &&& 248 : Nat) : Int) := u8_andNot_nat v 7 hv (by decide)
 go_enter Tryz.func101, Tryz.ntmps101
 go_wp2_with fail
 have H1 : ∀ X, X = w.setCell ⟨b, 14, none⟩ (.int .u8 (v &&& 248 : Nat)) → Pair X b c ({ d with base := v &&& 248 }) := by
  rintro X rfl
  unfold Pair Chip.cells at H ⊢
  simp only [List.cons_append, List.nil_append] at H ⊢
  (first | (simp only [heap_set_map, putObj_cells, H, Option.map_some, List.set_cons_succ, List.set_cons_zero, heap_drewN, heap_drew]; done) | (simp only [heap_set_map, putObj_cells, H, Option.map_some, List.set_cons_succ, List.set_cons_zero, heap_drewN, heap_drew]; rfl))
 refine (onward_d b c ({ d with base := v &&& 248 }) (by show d.stage ≠ 0; rw [hst]; decide) (by show d.stage < 4; rw [hst]; decide) _ (H1 _ rfl)).mono ?_
 rintro r w1 ⟨rfl, H2, hk⟩
 go_wp2_with fail
 go_returns
 exact ⟨rfl, H2, Keeps.trans ((Keeps.refl _ _).setOne _ _) hk⟩

theorem d2_d (b k : Nat) (c d : Chip) (hok : d.ok) (v : Nat) (hv : v < 256) (h0 : d.stage = 2)  (w : World) (H : Pair w b c d) (kv : w.cell? ⟨k, 0, none⟩ = some (.int .u8 v)) (hkb : k ≠ b) :
    Calls Tryz.prog 101 #[.pointer (some ⟨b, 10, none⟩), .bool false, .pointer (some ⟨k, 0, none⟩)] w fun r w' => r = .returned (.tuple #[]) ∧ Pair w' b c (onC (d)) ∧ Keeps (· = b) w w' := by
 obtain ⟨k0, k1, k2, k3, k4, k5, k6, k7, k8, k9, k10, k11, k12, k13, k14, k15, k16, k17, k18, k19, kf, klt⟩ := H.facts
 have hst : d.stage = 2 := h0
 rw [h0] at k17
 replace k17 : w.cell? ⟨b, 17, none⟩ = some (.int .i64 2) := k17
 go_enter Tryz.func101, Tryz.ntmps101
 go_wp2_with fail
 refine (onward_d b c (d) (by show d.stage ≠ 0; rw [hst]; decide) (by show d.stage < 4; rw [hst]; decide) w H).mono ?_
 rintro r w1 ⟨rfl, H2, hk⟩
 go_wp2_with fail
 go_returns
 exact ⟨rfl, H2, hk⟩

theorem d3_0_d (b k : Nat) (c d : Chip) (hok : d.ok) (v : Nat) (hv : v < 256) (h0 : d.stage = 3) (h2 : v &&& 2 = 0) (w : World) (H : Pair w b c d) (kv : w.cell? ⟨k, 0, none⟩ = some (.int .u8 v)) (hkb : k ≠ b) :
    Calls Tryz.prog 101 #[.pointer (some ⟨b, 10, none⟩), .bool false, .pointer (some ⟨k, 0, none⟩)] w fun r w' => r = .returned (.tuple #[]) ∧ Pair w' b c (onC ({ d with ends := false })) ∧ Keeps (· = b) w w' := by
 obtain ⟨k0, k1, k2, k3, k4, k5, k6, k7, k8, k9, k10, k11, k12, k13, k14, k15, k16, k17, k18, k19, kf, klt⟩ := H.facts
 have hst : d.stage = 3 := h0
 rw [h0] at k17
 replace k17 : w.cell? ⟨b, 17, none⟩ = some (.int .i64 3) := k17
 have e2 : bits .and .u8 (v : Int) 2 = 0 := by
  have h := u8_and_nat v 2 hv (by decide)
  rw [h2] at h
  exact h
 go_enter Tryz.func101, Tryz.ntmps101
 go_wp2_with fail
 have H1 : ∀ X, X = w.setCell ⟨b, 16, none⟩ (.bool false) → Pair X b c ({ d with ends := false }) := by
  rintro X rfl
  unfold Pair Chip.cells at H ⊢
  simp only [List.cons_append, List.nil_append] at H ⊢
  (first | (simp only [heap_set_map, putObj_cells, H, Option.map_some, List.set_cons_succ, List.set_cons_zero, heap_drewN, heap_drew]; done) | (simp only [heap_set_map, putObj_cells, H, Option.map_some, List.set_cons_succ, List.set_cons_zero, heap_drewN, heap_drew]; rfl))
 refine (onward_d b c ({ d with ends := false }) (by show d.stage ≠ 0; rw [hst]; decide) (by show d.stage < 4; rw [hst]; decide) _ (H1 _ rfl)).mono ?_
 rintro r w1 ⟨rfl, H2, hk⟩
 go_wp2_with fail
 go_returns
 exact ⟨rfl, H2, Keeps.trans ((Keeps.refl _ _).setOne _ _) hk⟩

theorem d3_1_d (b k : Nat) (c d : Chip) (hok : d.ok) (v : Nat) (hv : v < 256) (h0 : d.stage = 3) (h2 : v &&& 2 = 2) (w : World) (H : Pair w b c d) (kv : w.cell? ⟨k, 0, none⟩ = some (.int .u8 v)) (hkb : k ≠ b) :
    Calls Tryz.prog 101 #[.pointer (some ⟨b, 10, none⟩), .bool false, .pointer (some ⟨k, 0, none⟩)] w fun r w' => r = .returned (.tuple #[]) ∧ Pair w' b c (onC ({ d with ends := true })) ∧ Keeps (· = b) w w' := by
 obtain ⟨k0, k1, k2, k3, k4, k5, k6, k7, k8, k9, k10, k11, k12, k13, k14, k15, k16, k17, k18, k19, kf, klt⟩ := H.facts
 have hst : d.stage = 3 := h0
 rw [h0] at k17
 replace k17 : w.cell? ⟨b, 17, none⟩ = some (.int .i64 3) := k17
 have e2 : bits .and .u8 (v : Int) 2 = 2 := by
  have h := u8_and_nat v 2 hv (by decide)
  rw [h2] at h
  exact h
 go_enter Tryz.func101, Tryz.ntmps101
 go_wp2_with fail
 have H1 : ∀ X, X = w.setCell ⟨b, 16, none⟩ (.bool true) → Pair X b c ({ d with ends := true }) := by
  rintro X rfl
  unfold Pair Chip.cells at H ⊢
  simp only [List.cons_append, List.nil_append] at H ⊢
  (first | (simp only [heap_set_map, putObj_cells, H, Option.map_some, List.set_cons_succ, List.set_cons_zero, heap_drewN, heap_drew]; done) | (simp only [heap_set_map, putObj_cells, H, Option.map_some, List.set_cons_succ, List.set_cons_zero, heap_drewN, heap_drew]; rfl))
 refine (onward_d b c ({ d with ends := true }) (by show d.stage ≠ 0; rw [hst]; decide) (by show d.stage < 4; rw [hst]; decide) _ (H1 _ rfl)).mono ?_
 rintro r w1 ⟨rfl, H2, hk⟩
 go_wp2_with fail
 go_returns
 exact ⟨rfl, H2, Keeps.trans ((Keeps.refl _ _).setOne _ _) hk⟩

theorem out1_d (b k : Nat) (c d : Chip) (hok : d.ok) (command : Bool) (v : Nat) (hv : v < 256) (w : World) (H : Pair w b c d) (kv : w.cell? ⟨k, 0, none⟩ = some (.int .u8 v)) (hkb : k ≠ b) :
    Calls Tryz.prog 101 #[.pointer (some ⟨b, 10, none⟩), .bool command, .pointer (some ⟨k, 0, none⟩)] w fun r w' => r = .returned (.tuple #[]) ∧ Pair w' b c (outC d command v) ∧ Keeps (· = b) w w' := by
 have a1 := and_bit v 1 (by decide) hv
 have a2 := and_bit v 2 (by decide) hv
 have a8 := and_bit v 8 (by decide) hv
 have a16 := and_bit v 16 (by decide) hv
 cases command
 ·by_cases h0 : d.stage = 0
  ·have E : outC d false v = { d with masked := v } := by unfold outC; rw [if_neg (by decide), if_pos h0]
   rw [E]
   exact d0_d b k c d hok v hv h0 w H kv hkb
  ·have h4 := hok.stage
   obtain h1 | h1 | h1 : d.stage = 1 ∨ d.stage = 2 ∨ d.stage = 3 := by omega
   ·have E : outC d false v = onC { d with base := v &&& 248 } := by unfold outC; rw [if_neg (by decide), if_neg h0, if_pos h1]
    rw [E]
    exact d1_d b k c d hok v hv h1 w H kv hkb
   ·have E : outC d false v = onC d := by unfold outC; rw [if_neg (by decide), if_neg h0, if_neg (by omega), if_neg (by omega)]
    rw [E]
    exact d2_d b k c d hok v hv h1 w H kv hkb
   ·rcases a2 with a2 | a2
    ·have E : outC d false v = onC { d with ends := false } := by unfold outC bit; rw [if_neg (by decide), if_neg h0, if_neg (by omega), if_pos h1, a2]; rfl
     rw [E]
     exact d3_0_d b k c d hok v hv h1 a2 w H kv hkb
    ·have E : outC d false v = onC { d with ends := true } := by unfold outC bit; rw [if_neg (by decide), if_neg h0, if_neg (by omega), if_pos h1, a2]; rfl
     rw [E]
     exact d3_1_d b k c d hok v hv h1 a2 w H kv hkb
 ·rcases a16 with a16 | a16
  ·have b16 : bit v 16 = false := by unfold bit; rw [a16]; rfl
   rcases a8 with a8 | a8
   ·have b8 : bit v 8 = false := by unfold bit; rw [a8]; rfl
    by_cases h1 : v / 32 = 1
    ·have E : outC d true v = { d with served := d.served &&& ((d.served + 255) % 256) } := by unfold outC; rw [if_pos rfl, b16, b8, if_neg (by decide), if_neg (by decide), if_pos h1]
     rw [E]
     by_cases hz : d.served = 0
     ·have E2 : d.served &&& ((d.served + 255) % 256) = 0 := by rw [hz]; rfl
      rw [E2]
      exact o1z_d b k c d hok v hv a16 a8 h1 hz w H kv hkb
     ·exact o1_d b k c d hok v hv a16 a8 h1 (by omega) w H kv hkb
    ·by_cases h3 : v / 32 = 3
     ·have key : ∀ i, v &&& 7 = i → i < 8 → Calls Tryz.prog 101 #[.pointer (some ⟨b, 10, none⟩), .bool true, .pointer (some ⟨k, 0, none⟩)] w fun r w' => r = .returned (.tuple #[]) ∧ Pair w' b c { d with served := d.served &&& (255 - 2 ^ i) } ∧ Keeps (· = b) w w' := by
        intro i h7 hi
        obtain rfl | rfl | rfl | rfl | rfl | rfl | rfl | rfl : i = 0 ∨ i = 1 ∨ i = 2 ∨ i = 3 ∨ i = 4 ∨ i = 5 ∨ i = 6 ∨ i = 7 := by omega
        ·exact o3_0_d b k c d hok v hv a16 a8 h3 h7 w H kv hkb
        ·exact o3_1_d b k c d hok v hv a16 a8 h3 h7 w H kv hkb
        ·exact o3_2_d b k c d hok v hv a16 a8 h3 h7 w H kv hkb
        ·exact o3_3_d b k c d hok v hv a16 a8 h3 h7 w H kv hkb
        ·exact o3_4_d b k c d hok v hv a16 a8 h3 h7 w H kv hkb
        ·exact o3_5_d b k c d hok v hv a16 a8 h3 h7 w H kv hkb
        ·exact o3_6_d b k c d hok v hv a16 a8 h3 h7 w H kv hkb
        ·exact o3_7_d b k c d hok v hv a16 a8 h3 h7 w H kv hkb
      have E : outC d true v = { d with served := d.served &&& (255 - 2 ^ (v &&& 7)) } := by unfold outC; rw [if_pos rfl, b16, b8, if_neg (by decide), if_neg (by decide), if_neg h1, if_pos h3]
      rw [E]
      exact key _ rfl (Nat.lt_of_le_of_lt Nat.and_le_right (by decide))
     ·have E : outC d true v = d := by unfold outC; rw [if_pos rfl, b16, b8, if_neg (by decide), if_neg (by decide), if_neg h1, if_neg h3]
      rw [E]
      exact on_d b k c d hok v hv a16 a8 h1 h3 w H kv hkb
   ·have b8 : bit v 8 = true := by unfold bit; rw [a8]; rfl
    rcases a2 with a2 | a2
    ·have E : outC d true v = d := by unfold outC; rw [if_pos rfl, b16, b8, if_neg (by decide), if_pos rfl]; unfold bit; rw [a2]; rfl
     rw [E]
     exact o8_n_d b k c d hok v hv a16 a8 a2 w H kv hkb
    ·rcases a1 with a1 | a1
     ·have E : outC d true v = { d with told := false } := by unfold outC; rw [if_pos rfl, b16, b8, if_neg (by decide), if_pos rfl]; unfold bit; rw [a2, a1]; rfl
      rw [E]
      exact o8_0_d b k c d hok v hv a16 a8 a2 a1 w H kv hkb
     ·have E : outC d true v = { d with told := true } := by unfold outC; rw [if_pos rfl, b16, b8, if_neg (by decide), if_pos rfl]; unfold bit; rw [a2, a1]; rfl
      rw [E]
      exact o8_1_d b k c d hok v hv a16 a8 a2 a1 w H kv hkb
  ·have b16 : bit v 16 = true := by unfold bit; rw [a16]; rfl
   have E : outC d true v = Chip.mk 0 0 0 d.up d.base false false 1 (!bit v 2) (bit v 1) := by unfold outC; rw [if_pos rfl, b16, if_pos rfl]
   rw [E]
   unfold bit
   rcases a2 with a2 | a2
   ·rcases a1 with a1 | a1
    ·rw [a2, a1]
     exact o16_00_d b k c d hok v hv a16 a2 a1 w H kv hkb
    ·rw [a2, a1]
     exact o16_01_d b k c d hok v hv a16 a2 a1 w H kv hkb
   ·rcases a1 with a1 | a1
    ·rw [a2, a1]
     exact o16_10_d b k c d hok v hv a16 a2 a1 w H kv hkb
    ·rw [a2, a1]
     exact o16_11_d b k c d hok v hv a16 a2 a1 w H kv hkb
end Go.Proofs.YtojmpdddfnkffaaGreat.Pic

/- pic: take; Ack; Line. -/
namespace Go.Proofs.YtojmpdddfnkffaaGreat.Pic
open Go.RowKit
set_option linter.unusedVariables false
set_option linter.unusedSimpArgs false

theorem isTold_lt {a m s : Nat} (hs : s < 256) (h : isTold a m s = true) : tz8 (left a m) < 8 := by
 have h1 := tz8_le s hs
 unfold isTold at h
 have h2 := of_decide_eq_true h
 unfold left
 omega

theorem take1_no (b : Nat) (c d : Chip) (hd : d.ok) (w : World) (H : Pair w b c d) (ht : isTold d.asks d.masked d.served = false) :
    Calls Tryz.prog 99 #[.pointer (some ⟨b, 0, none⟩), .int .i64 1] w fun e w' => e = .returned (.int .i64 ((d.base : Int) + 7)) ∧ ∃ n, w' = w.drewN n := by
 have HT := Lib.hid ht
 have HD := Lib.hid hd
 have hb := hd.base
 clear ht hd
 go_enter Tryz.func99, Tryz.ntmps99
 go_wp2_with fail
 refine (tells1_any b c d HD.out _ H).mono ?_
 rintro e w1 ⟨rfl, n, rfl⟩
 rw [HT.out]
 obtain ⟨-, -, -, -, -, -, -, -, -, -, k10, k11, k12, k13, k14, k15, k16, k17, k18, k19, kf, klt⟩ := Pair.facts (w := w) H
 go_wp2_with fail
 go_ret
 exact ⟨rfl, _, rfl⟩

def vec1 (d : Chip) : Nat := if isTold d.asks d.masked d.served then d.base + tz8 (left d.asks d.masked) else d.base + 7
def tk1 (d : Chip) : Chip := if isTold d.asks d.masked d.served then takeC d (tz8 (left d.asks d.masked)) else d

theorem take1_any (b : Nat) (c d : Chip) (hd : d.ok) (w : World) (H : Pair w b c d) :
    Calls Tryz.prog 99 #[.pointer (some ⟨b, 0, none⟩), .int .i64 1] w fun e w' => e = .returned (.int .i64 (vec1 d)) ∧ Pair w' b c (tk1 d) ∧ Keeps (· = b) w w' := by
 cases ht : isTold d.asks d.masked d.served
 ·refine (take1_no b c d hd w H ht).mono ?_
  rintro e w1 ⟨rfl, n, rfl⟩
  unfold vec1 tk1
  rw [ht]
  exact ⟨rfl, H, (Keeps.refl _ _).drewN _⟩
 ·have hl := isTold_lt hd.served ht
  have key : ∀ i, tz8 (left d.asks d.masked) = i → i < 8 → Calls Tryz.prog 99 #[.pointer (some ⟨b, 0, none⟩), .int .i64 1] w fun e w' => e = .returned (.int .i64 ((d.base : Int) + (i : Nat))) ∧ Pair w' b c (takeC d i) ∧ Keeps (· = b) w w' := by
   intro i hi h8
   obtain rfl | rfl | rfl | rfl | rfl | rfl | rfl | rfl : i = 0 ∨ i = 1 ∨ i = 2 ∨ i = 3 ∨ i = 4 ∨ i = 5 ∨ i = 6 ∨ i = 7 := by omega
   ·exact take1_0 b c d hd w H ht hi
   ·exact take1_1 b c d hd w H ht hi
   ·exact take1_2 b c d hd w H ht hi
   ·exact take1_3 b c d hd w H ht hi
   ·exact take1_4 b c d hd w H ht hi
   ·exact take1_5 b c d hd w H ht hi
   ·exact take1_6 b c d hd w H ht hi
   ·exact take1_7 b c d hd w H ht hi
  refine (key _ rfl hl).mono ?_
  rintro e w1 ⟨rfl, h1, h2⟩
  unfold vec1 tk1
  rw [ht]
  exact ⟨rfl, h1, h2⟩

theorem takeC_ok {c : Chip} (h : c.ok) (i : Nat) (hi : i < 8) : (takeC c i).ok := by
 refine ⟨andNot_lt _ _ h.asks, ?_, h.masked, h.up, h.base, h.stage⟩
 show servedC c i < 256
 unfold servedC
 split
 ·exact h.served
 ·exact Nat.or_lt_two_pow (n := 8) h.served (Nat.pow_lt_pow_right (a := 2) (by decide) hi)
theorem tk1_ok {d : Chip} (h : d.ok) : (tk1 d).ok := by
 unfold tk1
 split
 ·rename_i ht
  exact takeC_ok h _ (isTold_lt h.served ht)
 ·exact h
theorem lineC_ok {c : Chip} (h : c.ok) (k : Nat) (hk : k < 8) (up : Bool) : (lineC c k up).ok := by
 have hp : 2 ^ k < 256 := Nat.pow_lt_pow_right (a := 2) (by decide) hk
 unfold lineC
 split
 ·exact ⟨show askUp c.asks c.up (2 ^ k) < 256 from Nat.or_lt_two_pow (n := 8) h.asks (Nat.lt_of_le_of_lt Nat.and_le_left hp), h.served, h.masked, Nat.or_lt_two_pow (n := 8) h.up hp, h.base, h.stage⟩
 ·exact ⟨andNot_lt _ _ h.asks, h.served, h.masked, andNot_lt _ _ h.up, h.base, h.stage⟩

def told0 (c d : Chip) : Bool := isTold (ask0 c d) c.masked c.served
def line0 (c d : Chip) : Nat := tz8 (left (ask0 c d) c.masked)
def vec0 (c d : Chip) : Nat := if told0 c d then (if line0 c d = 2 then vec1 d else c.base + line0 c d) else c.base + 7
def tkc (c d : Chip) : Chip := if told0 c d then takeC c (line0 c d) else c
def tkd (c d : Chip) : Chip := if told0 c d then (if line0 c d = 2 then tk1 d else d) else d
theorem line0_lt {c d : Chip} (hc : c.ok) (h : told0 c d = true) : line0 c d < 8 := isTold_lt hc.served h
theorem tkc_ok {c d : Chip} (hc : c.ok) : (tkc c d).ok := by
 unfold tkc
 split
 ·rename_i ht
  exact takeC_ok hc _ (line0_lt hc ht)
 ·exact hc
theorem tkd_ok {c d : Chip} (hd : d.ok) : (tkd c d).ok := by
 unfold tkd
 split
 ·split
  ·exact tk1_ok hd
  ·exact hd
 ·exact hd

theorem take0_no (b : Nat) (c d : Chip) (hc : c.ok) (hd : d.ok) (w : World) (H : Pair w b c d) (ht : told0 c d = false) :
    Calls Tryz.prog 99 #[.pointer (some ⟨b, 0, none⟩), .int .i64 0] w fun e w' => e = .returned (.int .i64 ((c.base : Int) + 7)) ∧ ∃ n, w' = w.drewN n := by
 have HT := Lib.hid ht
 have HD := Lib.hid hd
 have HC := Lib.hid hc
 have hb := hc.base
 clear ht hd hc
 go_enter Tryz.func99, Tryz.ntmps99
 go_wp2_with fail
 refine (tells0_any b c d HC.out HD.out _ H).mono ?_
 rintro e w1 ⟨rfl, n, rfl⟩
 have hT : isTold (ask0 c d) c.masked c.served = false := HT.out
 rw [hT]
 clear hT
 obtain ⟨k0, k1, k2, k3, k4, k5, k6, k7, k8, k9, -, -, -, -, -, -, -, -, -, -, kf, klt⟩ := Pair.facts (w := w) H
 go_wp2_with fail
 go_ret
 exact ⟨rfl, _, rfl⟩

theorem take0_0 (b : Nat) (c d : Chip) (hc : c.ok) (hd : d.ok) (w : World) (H : Pair w b c d) (ht : told0 c d = true) (hi : line0 c d = 0) :
    Calls Tryz.prog 99 #[.pointer (some ⟨b, 0, none⟩), .int .i64 0] w fun e w' => e = .returned (.int .i64 ((c.base : Int) + 0)) ∧ Pair w' b (takeC c 0) d ∧ Keeps (· = b) w w' := by
 have HT := Lib.hid ht
 have HI := Lib.hid hi
 have HD := Lib.hid hd
 have HC := Lib.hid hc
 have ha := hc.asks
 have hs := hc.served
 have hb := hc.base
 have e1 : bits .andNot .u8 (c.asks : Int) 1 = ((c.asks &&& 254 : Nat) : Int) := u8_andNot_nat c.asks 1 ha (by decide)
 have e5 : bits .or .u8 (c.served : Int) 1 = ((c.served ||| 1 : Nat) : Int) := u8_or_nat c.served 1 hs (by decide)
 clear ht hi hd hc
 cases hE : c.ends
 all_goals
  have HE := Lib.hid hE
  go_enter Tryz.func99, Tryz.ntmps99
  go_wp2_with fail
  refine (tells0_any b c d HC.out HD.out _ H).mono ?_
  rintro e w1 ⟨rfl, n, rfl⟩
  have hT : isTold (ask0 c d) c.masked c.served = true := HT.out
  have hI : tz8 (left (ask0 c d) c.masked) = 0 := HI.out
  rw [hT, hI]
  clear hT hI
  obtain ⟨k0, k1, k2, k3, k4, k5, k6, k7, k8, k9, -, -, -, -, -, -, -, -, -, -, kf, klt⟩ := Pair.facts (w := w) H
  go_wp2_with fail
  go_region
  go_wp2_with fail
  try go_region
  all_goals
   go_wp2_with fail
   go_ret
   refine ⟨rfl, ?_, by (repeat' (first | (with_reducible exact Keeps.refl _ _) | (with_reducible assumption) | (with_reducible refine Keeps.setOne ?_ _ _) | (with_reducible refine Keeps.alloc ?_ _) | (with_reducible refine Keeps.drew ?_) | (with_reducible refine Keeps.drewN ?_ _)))⟩
   have hT : takeC c 0 = Chip.mk (c.asks &&& 254) (servedC c 0) c.masked c.up c.base c.told c.ends c.stage c.second c.last := rfl
   first
    | (have hS : servedC c 0 = c.served := by (unfold servedC; rw [hE]; rfl)
       rw [hT, hS])
    | (have hS : servedC c 0 = c.served ||| 1 := by (unfold servedC; rw [hE]; rfl)
       rw [hT, hS])
   unfold Pair Chip.cells at H ⊢
   simp only [List.cons_append, List.nil_append] at H ⊢
   (first | (simp only [heap_set_map, putObj_cells, H, Option.map_some, List.set_cons_succ, List.set_cons_zero, heap_drewN, heap_drew]; done) | (simp only [heap_set_map, putObj_cells, H, Option.map_some, List.set_cons_succ, List.set_cons_zero, heap_drewN, heap_drew]; rfl))

theorem take0_1 (b : Nat) (c d : Chip) (hc : c.ok) (hd : d.ok) (w : World) (H : Pair w b c d) (ht : told0 c d = true) (hi : line0 c d = 1) :
    Calls Tryz.prog 99 #[.pointer (some ⟨b, 0, none⟩), .int .i64 0] w fun e w' => e = .returned (.int .i64 ((c.base : Int) + 1)) ∧ Pair w' b (takeC c 1) d ∧ Keeps (· = b) w w' := by
 have HT := Lib.hid ht
 have HI := Lib.hid hi
 have HD := Lib.hid hd
 have HC := Lib.hid hc
 have ha := hc.asks
 have hs := hc.served
 have hb := hc.base
 have e1 : bits .andNot .u8 (c.asks : Int) 2 = ((c.asks &&& 253 : Nat) : Int) := u8_andNot_nat c.asks 2 ha (by decide)
 have e5 : bits .or .u8 (c.served : Int) 2 = ((c.served ||| 2 : Nat) : Int) := u8_or_nat c.served 2 hs (by decide)
 clear ht hi hd hc
 cases hE : c.ends
 all_goals
  have HE := Lib.hid hE
  go_enter Tryz.func99, Tryz.ntmps99
  go_wp2_with fail
  refine (tells0_any b c d HC.out HD.out _ H).mono ?_
  rintro e w1 ⟨rfl, n, rfl⟩
  have hT : isTold (ask0 c d) c.masked c.served = true := HT.out
  have hI : tz8 (left (ask0 c d) c.masked) = 1 := HI.out
  rw [hT, hI]
  clear hT hI
  obtain ⟨k0, k1, k2, k3, k4, k5, k6, k7, k8, k9, -, -, -, -, -, -, -, -, -, -, kf, klt⟩ := Pair.facts (w := w) H
  go_wp2_with fail
  go_region
  go_wp2_with fail
  try go_region
  all_goals
   go_wp2_with fail
   go_ret
   refine ⟨rfl, ?_, by (repeat' (first | (with_reducible exact Keeps.refl _ _) | (with_reducible assumption) | (with_reducible refine Keeps.setOne ?_ _ _) | (with_reducible refine Keeps.alloc ?_ _) | (with_reducible refine Keeps.drew ?_) | (with_reducible refine Keeps.drewN ?_ _)))⟩
   have hT : takeC c 1 = Chip.mk (c.asks &&& 253) (servedC c 1) c.masked c.up c.base c.told c.ends c.stage c.second c.last := rfl
   first
    | (have hS : servedC c 1 = c.served := by (unfold servedC; rw [hE]; rfl)
       rw [hT, hS])
    | (have hS : servedC c 1 = c.served ||| 2 := by (unfold servedC; rw [hE]; rfl)
       rw [hT, hS])
   unfold Pair Chip.cells at H ⊢
   simp only [List.cons_append, List.nil_append] at H ⊢
   (first | (simp only [heap_set_map, putObj_cells, H, Option.map_some, List.set_cons_succ, List.set_cons_zero, heap_drewN, heap_drew]; done) | (simp only [heap_set_map, putObj_cells, H, Option.map_some, List.set_cons_succ, List.set_cons_zero, heap_drewN, heap_drew]; rfl))

theorem take0_2 (b : Nat) (c d : Chip) (hc : c.ok) (hd : d.ok) (w : World) (H : Pair w b c d) (ht : told0 c d = true) (hi : line0 c d = 2) :
    Calls Tryz.prog 99 #[.pointer (some ⟨b, 0, none⟩), .int .i64 0] w fun e w' => e = .returned (.int .i64 (vec1 d)) ∧ Pair w' b (takeC c 2) (tk1 d) ∧ Keeps (· = b) w w' := by
 have HT := Lib.hid ht
 have HI := Lib.hid hi
 have HD := Lib.hid hd
 have HC := Lib.hid hc
 have ha := hc.asks
 have hs := hc.served
 have hb := hc.base
 have e1 : bits .andNot .u8 (c.asks : Int) 4 = ((c.asks &&& 251 : Nat) : Int) := u8_andNot_nat c.asks 4 ha (by decide)
 have e5 : bits .or .u8 (c.served : Int) 4 = ((c.served ||| 4 : Nat) : Int) := u8_or_nat c.served 4 hs (by decide)
 clear ht hi hd hc
 cases hE : c.ends
 all_goals
  have HE := Lib.hid hE
  go_enter Tryz.func99, Tryz.ntmps99
  go_wp2_with fail
  refine (tells0_any b c d HC.out HD.out _ H).mono ?_
  rintro e w1 ⟨rfl, n, rfl⟩
  have hT : isTold (ask0 c d) c.masked c.served = true := HT.out
  have hI : tz8 (left (ask0 c d) c.masked) = 2 := HI.out
  rw [hT, hI]
  clear hT hI
  obtain ⟨k0, k1, k2, k3, k4, k5, k6, k7, k8, k9, -, -, -, -, -, -, -, -, -, -, kf, klt⟩ := Pair.facts (w := w) H
  go_wp2_with fail
  refine (take1_any b c d HD.out (World.drewN w n) H).mono ?_
  rintro e w1 ⟨rfl, H1, hk⟩
  clear H kf klt k0 k1 k2 k3 k4 k5 k6 k7 k8 k9
  have H := H1
  clear H1
  obtain ⟨k0, k1, k2, k3, k4, k5, k6, k7, k8, k9, -, -, -, -, -, -, -, -, -, -, kf, klt⟩ := Pair.facts (w := w1) H
  go_wp2_with fail
  go_region
  go_wp2_with fail
  try go_region
  all_goals
   go_wp2_with fail
   go_ret
   refine ⟨rfl, ?_, by (repeat' (first | (with_reducible exact Keeps.refl _ _) | (with_reducible exact (((Keeps.refl _ _).drewN _).trans hk)) | (with_reducible exact hk) | (with_reducible refine Keeps.setOne ?_ _ _) | (with_reducible refine Keeps.alloc ?_ _) | (with_reducible refine Keeps.drew ?_) | (with_reducible refine Keeps.drewN ?_ _)))⟩
   have hT : takeC c 2 = Chip.mk (c.asks &&& 251) (servedC c 2) c.masked c.up c.base c.told c.ends c.stage c.second c.last := rfl
   first
    | (have hS : servedC c 2 = c.served := by (unfold servedC; rw [hE]; rfl)
       rw [hT, hS])
    | (have hS : servedC c 2 = c.served ||| 4 := by (unfold servedC; rw [hE]; rfl)
       rw [hT, hS])
   unfold Pair Chip.cells at H ⊢
   simp only [List.cons_append, List.nil_append] at H ⊢
   (first | (simp only [heap_set_map, putObj_cells, H, Option.map_some, List.set_cons_succ, List.set_cons_zero, heap_drewN, heap_drew]; done) | (simp only [heap_set_map, putObj_cells, H, Option.map_some, List.set_cons_succ, List.set_cons_zero, heap_drewN, heap_drew]; rfl))

theorem take0_3 (b : Nat) (c d : Chip) (hc : c.ok) (hd : d.ok) (w : World) (H : Pair w b c d) (ht : told0 c d = true) (hi : line0 c d = 3) :
    Calls Tryz.prog 99 #[.pointer (some ⟨b, 0, none⟩), .int .i64 0] w fun e w' => e = .returned (.int .i64 ((c.base : Int) + 3)) ∧ Pair w' b (takeC c 3) d ∧ Keeps (· = b) w w' := by
 have HT := Lib.hid ht
 have HI := Lib.hid hi
 have HD := Lib.hid hd
 have HC := Lib.hid hc
 have ha := hc.asks
 have hs := hc.served
 have hb := hc.base
 have e1 : bits .andNot .u8 (c.asks : Int) 8 = ((c.asks &&& 247 : Nat) : Int) := u8_andNot_nat c.asks 8 ha (by decide)
 have e5 : bits .or .u8 (c.served : Int) 8 = ((c.served ||| 8 : Nat) : Int) := u8_or_nat c.served 8 hs (by decide)
 clear ht hi hd hc
 cases hE : c.ends
 all_goals
  have HE := Lib.hid hE
  go_enter Tryz.func99, Tryz.ntmps99
  go_wp2_with fail
  refine (tells0_any b c d HC.out HD.out _ H).mono ?_
  rintro e w1 ⟨rfl, n, rfl⟩
  have hT : isTold (ask0 c d) c.masked c.served = true := HT.out
  have hI : tz8 (left (ask0 c d) c.masked) = 3 := HI.out
  rw [hT, hI]
  clear hT hI
  obtain ⟨k0, k1, k2, k3, k4, k5, k6, k7, k8, k9, -, -, -, -, -, -, -, -, -, -, kf, klt⟩ := Pair.facts (w := w) H
  go_wp2_with fail
  go_region
  go_wp2_with fail
  try go_region
  all_goals
   go_wp2_with fail
   go_ret
   refine ⟨rfl, ?_, by (repeat' (first | (with_reducible exact Keeps.refl _ _) | (with_reducible assumption) | (with_reducible refine Keeps.setOne ?_ _ _) | (with_reducible refine Keeps.alloc ?_ _) | (with_reducible refine Keeps.drew ?_) | (with_reducible refine Keeps.drewN ?_ _)))⟩
   have hT : takeC c 3 = Chip.mk (c.asks &&& 247) (servedC c 3) c.masked c.up c.base c.told c.ends c.stage c.second c.last := rfl
   first
    | (have hS : servedC c 3 = c.served := by (unfold servedC; rw [hE]; rfl)
       rw [hT, hS])
    | (have hS : servedC c 3 = c.served ||| 8 := by (unfold servedC; rw [hE]; rfl)
       rw [hT, hS])
   unfold Pair Chip.cells at H ⊢
   simp only [List.cons_append, List.nil_append] at H ⊢
   (first | (simp only [heap_set_map, putObj_cells, H, Option.map_some, List.set_cons_succ, List.set_cons_zero, heap_drewN, heap_drew]; done) | (simp only [heap_set_map, putObj_cells, H, Option.map_some, List.set_cons_succ, List.set_cons_zero, heap_drewN, heap_drew]; rfl))

theorem take0_4 (b : Nat) (c d : Chip) (hc : c.ok) (hd : d.ok) (w : World) (H : Pair w b c d) (ht : told0 c d = true) (hi : line0 c d = 4) :
    Calls Tryz.prog 99 #[.pointer (some ⟨b, 0, none⟩), .int .i64 0] w fun e w' => e = .returned (.int .i64 ((c.base : Int) + 4)) ∧ Pair w' b (takeC c 4) d ∧ Keeps (· = b) w w' := by
 have HT := Lib.hid ht
 have HI := Lib.hid hi
 have HD := Lib.hid hd
 have HC := Lib.hid hc
 have ha := hc.asks
 have hs := hc.served
 have hb := hc.base
 have e1 : bits .andNot .u8 (c.asks : Int) 16 = ((c.asks &&& 239 : Nat) : Int) := u8_andNot_nat c.asks 16 ha (by decide)
 have e5 : bits .or .u8 (c.served : Int) 16 = ((c.served ||| 16 : Nat) : Int) := u8_or_nat c.served 16 hs (by decide)
 clear ht hi hd hc
 cases hE : c.ends
 all_goals
  have HE := Lib.hid hE
  go_enter Tryz.func99, Tryz.ntmps99
  go_wp2_with fail
  refine (tells0_any b c d HC.out HD.out _ H).mono ?_
  rintro e w1 ⟨rfl, n, rfl⟩
  have hT : isTold (ask0 c d) c.masked c.served = true := HT.out
  have hI : tz8 (left (ask0 c d) c.masked) = 4 := HI.out
  rw [hT, hI]
  clear hT hI
  obtain ⟨k0, k1, k2, k3, k4, k5, k6, k7, k8, k9, -, -, -, -, -, -, -, -, -, -, kf, klt⟩ := Pair.facts (w := w) H
  go_wp2_with fail
  go_region
  go_wp2_with fail
  try go_region
  all_goals
   go_wp2_with fail
   go_ret
   refine ⟨rfl, ?_, by (repeat' (first | (with_reducible exact Keeps.refl _ _) | (with_reducible assumption) | (with_reducible refine Keeps.setOne ?_ _ _) | (with_reducible refine Keeps.alloc ?_ _) | (with_reducible refine Keeps.drew ?_) | (with_reducible refine Keeps.drewN ?_ _)))⟩
   have hT : takeC c 4 = Chip.mk (c.asks &&& 239) (servedC c 4) c.masked c.up c.base c.told c.ends c.stage c.second c.last := rfl
   first
    | (have hS : servedC c 4 = c.served := by (unfold servedC; rw [hE]; rfl)
       rw [hT, hS])
    | (have hS : servedC c 4 = c.served ||| 16 := by (unfold servedC; rw [hE]; rfl)
       rw [hT, hS])
   unfold Pair Chip.cells at H ⊢
   simp only [List.cons_append, List.nil_append] at H ⊢
   (first | (simp only [heap_set_map, putObj_cells, H, Option.map_some, List.set_cons_succ, List.set_cons_zero, heap_drewN, heap_drew]; done) | (simp only [heap_set_map, putObj_cells, H, Option.map_some, List.set_cons_succ, List.set_cons_zero, heap_drewN, heap_drew]; rfl))

theorem take0_5 (b : Nat) (c d : Chip) (hc : c.ok) (hd : d.ok) (w : World) (H : Pair w b c d) (ht : told0 c d = true) (hi : line0 c d = 5) :
    Calls Tryz.prog 99 #[.pointer (some ⟨b, 0, none⟩), .int .i64 0] w fun e w' => e = .returned (.int .i64 ((c.base : Int) + 5)) ∧ Pair w' b (takeC c 5) d ∧ Keeps (· = b) w w' := by
 have HT := Lib.hid ht
 have HI := Lib.hid hi
 have HD := Lib.hid hd
 have HC := Lib.hid hc
 have ha := hc.asks
 have hs := hc.served
 have hb := hc.base
 have e1 : bits .andNot .u8 (c.asks : Int) 32 = ((c.asks &&& 223 : Nat) : Int) := u8_andNot_nat c.asks 32 ha (by decide)
 have e5 : bits .or .u8 (c.served : Int) 32 = ((c.served ||| 32 : Nat) : Int) := u8_or_nat c.served 32 hs (by decide)
 clear ht hi hd hc
 cases hE : c.ends
 all_goals
  have HE := Lib.hid hE
  go_enter Tryz.func99, Tryz.ntmps99
  go_wp2_with fail
  refine (tells0_any b c d HC.out HD.out _ H).mono ?_
  rintro e w1 ⟨rfl, n, rfl⟩
  have hT : isTold (ask0 c d) c.masked c.served = true := HT.out
  have hI : tz8 (left (ask0 c d) c.masked) = 5 := HI.out
  rw [hT, hI]
  clear hT hI
  obtain ⟨k0, k1, k2, k3, k4, k5, k6, k7, k8, k9, -, -, -, -, -, -, -, -, -, -, kf, klt⟩ := Pair.facts (w := w) H
  go_wp2_with fail
  go_region
  go_wp2_with fail
  try go_region
  all_goals
   go_wp2_with fail
   go_ret
   refine ⟨rfl, ?_, by (repeat' (first | (with_reducible exact Keeps.refl _ _) | (with_reducible assumption) | (with_reducible refine Keeps.setOne ?_ _ _) | (with_reducible refine Keeps.alloc ?_ _) | (with_reducible refine Keeps.drew ?_) | (with_reducible refine Keeps.drewN ?_ _)))⟩
   have hT : takeC c 5 = Chip.mk (c.asks &&& 223) (servedC c 5) c.masked c.up c.base c.told c.ends c.stage c.second c.last := rfl
   first
    | (have hS : servedC c 5 = c.served := by (unfold servedC; rw [hE]; rfl)
       rw [hT, hS])
    | (have hS : servedC c 5 = c.served ||| 32 := by (unfold servedC; rw [hE]; rfl)
       rw [hT, hS])
   unfold Pair Chip.cells at H ⊢
   simp only [List.cons_append, List.nil_append] at H ⊢
   (first | (simp only [heap_set_map, putObj_cells, H, Option.map_some, List.set_cons_succ, List.set_cons_zero, heap_drewN, heap_drew]; done) | (simp only [heap_set_map, putObj_cells, H, Option.map_some, List.set_cons_succ, List.set_cons_zero, heap_drewN, heap_drew]; rfl))

theorem take0_6 (b : Nat) (c d : Chip) (hc : c.ok) (hd : d.ok) (w : World) (H : Pair w b c d) (ht : told0 c d = true) (hi : line0 c d = 6) :
    Calls Tryz.prog 99 #[.pointer (some ⟨b, 0, none⟩), .int .i64 0] w fun e w' => e = .returned (.int .i64 ((c.base : Int) + 6)) ∧ Pair w' b (takeC c 6) d ∧ Keeps (· = b) w w' := by
 have HT := Lib.hid ht
 have HI := Lib.hid hi
 have HD := Lib.hid hd
 have HC := Lib.hid hc
 have ha := hc.asks
 have hs := hc.served
 have hb := hc.base
 have e1 : bits .andNot .u8 (c.asks : Int) 64 = ((c.asks &&& 191 : Nat) : Int) := u8_andNot_nat c.asks 64 ha (by decide)
 have e5 : bits .or .u8 (c.served : Int) 64 = ((c.served ||| 64 : Nat) : Int) := u8_or_nat c.served 64 hs (by decide)
 clear ht hi hd hc
 cases hE : c.ends
 all_goals
  have HE := Lib.hid hE
  go_enter Tryz.func99, Tryz.ntmps99
  go_wp2_with fail
  refine (tells0_any b c d HC.out HD.out _ H).mono ?_
  rintro e w1 ⟨rfl, n, rfl⟩
  have hT : isTold (ask0 c d) c.masked c.served = true := HT.out
  have hI : tz8 (left (ask0 c d) c.masked) = 6 := HI.out
  rw [hT, hI]
  clear hT hI
  obtain ⟨k0, k1, k2, k3, k4, k5, k6, k7, k8, k9, -, -, -, -, -, -, -, -, -, -, kf, klt⟩ := Pair.facts (w := w) H
  go_wp2_with fail
  go_region
  go_wp2_with fail
  try go_region
  all_goals
   go_wp2_with fail
   go_ret
   refine ⟨rfl, ?_, by (repeat' (first | (with_reducible exact Keeps.refl _ _) | (with_reducible assumption) | (with_reducible refine Keeps.setOne ?_ _ _) | (with_reducible refine Keeps.alloc ?_ _) | (with_reducible refine Keeps.drew ?_) | (with_reducible refine Keeps.drewN ?_ _)))⟩
   have hT : takeC c 6 = Chip.mk (c.asks &&& 191) (servedC c 6) c.masked c.up c.base c.told c.ends c.stage c.second c.last := rfl
   first
    | (have hS : servedC c 6 = c.served := by (unfold servedC; rw [hE]; rfl)
       rw [hT, hS])
    | (have hS : servedC c 6 = c.served ||| 64 := by (unfold servedC; rw [hE]; rfl)
       rw [hT, hS])
   unfold Pair Chip.cells at H ⊢
   simp only [List.cons_append, List.nil_append] at H ⊢
   (first | (simp only [heap_set_map, putObj_cells, H, Option.map_some, List.set_cons_succ, List.set_cons_zero, heap_drewN, heap_drew]; done) | (simp only [heap_set_map, putObj_cells, H, Option.map_some, List.set_cons_succ, List.set_cons_zero, heap_drewN, heap_drew]; rfl))

theorem take0_7 (b : Nat) (c d : Chip) (hc : c.ok) (hd : d.ok) (w : World) (H : Pair w b c d) (ht : told0 c d = true) (hi : line0 c d = 7) :
    Calls Tryz.prog 99 #[.pointer (some ⟨b, 0, none⟩), .int .i64 0] w fun e w' => e = .returned (.int .i64 ((c.base : Int) + 7)) ∧ Pair w' b (takeC c 7) d ∧ Keeps (· = b) w w' := by
 have HT := Lib.hid ht
 have HI := Lib.hid hi
 have HD := Lib.hid hd
 have HC := Lib.hid hc
 have ha := hc.asks
 have hs := hc.served
 have hb := hc.base
 have e1 : bits .andNot .u8 (c.asks : Int) 128 = ((c.asks &&& 127 : Nat) : Int) := u8_andNot_nat c.asks 128 ha (by decide)
 have e5 : bits .or .u8 (c.served : Int) 128 = ((c.served ||| 128 : Nat) : Int) := u8_or_nat c.served 128 hs (by decide)
 clear ht hi hd hc
 cases hE : c.ends
 all_goals
  have HE := Lib.hid hE
  go_enter Tryz.func99, Tryz.ntmps99
  go_wp2_with fail
  refine (tells0_any b c d HC.out HD.out _ H).mono ?_
  rintro e w1 ⟨rfl, n, rfl⟩
  have hT : isTold (ask0 c d) c.masked c.served = true := HT.out
  have hI : tz8 (left (ask0 c d) c.masked) = 7 := HI.out
  rw [hT, hI]
  clear hT hI
  obtain ⟨k0, k1, k2, k3, k4, k5, k6, k7, k8, k9, -, -, -, -, -, -, -, -, -, -, kf, klt⟩ := Pair.facts (w := w) H
  go_wp2_with fail
  go_region
  go_wp2_with fail
  try go_region
  all_goals
   go_wp2_with fail
   go_ret
   refine ⟨rfl, ?_, by (repeat' (first | (with_reducible exact Keeps.refl _ _) | (with_reducible assumption) | (with_reducible refine Keeps.setOne ?_ _ _) | (with_reducible refine Keeps.alloc ?_ _) | (with_reducible refine Keeps.drew ?_) | (with_reducible refine Keeps.drewN ?_ _)))⟩
   have hT : takeC c 7 = Chip.mk (c.asks &&& 127) (servedC c 7) c.masked c.up c.base c.told c.ends c.stage c.second c.last := rfl
   first
    | (have hS : servedC c 7 = c.served := by (unfold servedC; rw [hE]; rfl)
       rw [hT, hS])
    | (have hS : servedC c 7 = c.served ||| 128 := by (unfold servedC; rw [hE]; rfl)
       rw [hT, hS])
   unfold Pair Chip.cells at H ⊢
   simp only [List.cons_append, List.nil_append] at H ⊢
   (first | (simp only [heap_set_map, putObj_cells, H, Option.map_some, List.set_cons_succ, List.set_cons_zero, heap_drewN, heap_drew]; done) | (simp only [heap_set_map, putObj_cells, H, Option.map_some, List.set_cons_succ, List.set_cons_zero, heap_drewN, heap_drew]; rfl))

theorem take0_any (b : Nat) (c d : Chip) (hc : c.ok) (hd : d.ok) (w : World) (H : Pair w b c d) :
    Calls Tryz.prog 99 #[.pointer (some ⟨b, 0, none⟩), .int .i64 0] w fun e w' => e = .returned (.int .i64 (vec0 c d)) ∧ Pair w' b (tkc c d) (tkd c d) ∧ Keeps (· = b) w w' := by
 cases ht : told0 c d
 ·refine (take0_no b c d hc hd w H ht).mono ?_
  rintro e w1 ⟨rfl, n, rfl⟩
  unfold vec0 tkc tkd
  rw [ht]
  exact ⟨rfl, H, (Keeps.refl _ _).drewN _⟩
 ·have hl := line0_lt hc ht
  have key : ∀ i, line0 c d = i → i < 8 → Calls Tryz.prog 99 #[.pointer (some ⟨b, 0, none⟩), .int .i64 0] w fun e w' => e = .returned (.int .i64 ((if i = 2 then vec1 d else c.base + i : Nat) : Int)) ∧ Pair w' b (takeC c i) (if i = 2 then tk1 d else d) ∧ Keeps (· = b) w w' := by
   intro i hi h8
   obtain rfl | rfl | rfl | rfl | rfl | rfl | rfl | rfl : i = 0 ∨ i = 1 ∨ i = 2 ∨ i = 3 ∨ i = 4 ∨ i = 5 ∨ i = 6 ∨ i = 7 := by omega
   ·exact take0_0 b c d hc hd w H ht hi
   ·exact take0_1 b c d hc hd w H ht hi
   ·exact take0_2 b c d hc hd w H ht hi
   ·exact take0_3 b c d hc hd w H ht hi
   ·exact take0_4 b c d hc hd w H ht hi
   ·exact take0_5 b c d hc hd w H ht hi
   ·exact take0_6 b c d hc hd w H ht hi
   ·exact take0_7 b c d hc hd w H ht hi
  refine (key _ rfl hl).mono ?_
  rintro e w1 ⟨rfl, h1, h2⟩
  unfold vec0 tkc tkd
  rw [ht]
  exact ⟨rfl, h1, h2⟩

theorem ack_any (b : Nat) (c d : Chip) (hc : c.ok) (hd : d.ok) (w : World) (H : Pair w b c d) :
    Calls Tryz.prog 65 #[.pointer (some ⟨b, 0, none⟩)] w fun e w' => e = .returned (.int .i64 (vec0 c d)) ∧ Pair w' b (tkc c d) (tkd c d) ∧ Keeps (· = b) w w' := by
 go_enter Tryz.func65, Tryz.ntmps65
 go_wp2_with fail
 refine (take0_any b c d hc hd _ H).mono ?_
 rintro e w1 ⟨rfl, h1, h2⟩
 go_wp2_with fail
 go_ret
 exact ⟨rfl, h1, h2⟩
def lineGood (n : Int) : Bool := decide (0 ≤ n) && decide (n ≤ 15)
def lnc (c : Chip) (n : Int) (up : Bool) : Chip := if 0 ≤ n ∧ n ≤ 7 ∧ n ≠ 2 then lineC c n.toNat up else c
def lnd (d : Chip) (n : Int) (up : Bool) : Chip := if 8 ≤ n ∧ n ≤ 15 then lineC d (n.toNat - 8) up else d
theorem lnc_ok {c : Chip} (h : c.ok) (n : Int) (up : Bool) : (lnc c n up).ok := by
 unfold lnc
 split
 ·exact lineC_ok h _ (by omega) up
 ·exact h
theorem lnd_ok {c : Chip} (h : c.ok) (n : Int) (up : Bool) : (lnd c n up).ok := by
 unfold lnd
 split
 ·exact lineC_ok h _ (by omega) up
 ·exact h
theorem line_any (b : Nat) (c d : Chip) (hc : c.ok) (hd : d.ok) (n : Int) (up : Bool) (w : World) (H : Pair w b c d) :
    Calls Tryz.prog 74 #[.pointer (some ⟨b, 0, none⟩), .int .i64 n, .bool up] w fun e w' => e = .returned (.int .i64 (if lineGood n then 0 else 1)) ∧ Pair w' b (lnc c n up) (lnd d n up) ∧ Keeps (· = b) w w' := by
 by_cases hn : 0 ≤ n ∧ n ≤ 15
 ·obtain rfl | rfl | rfl | rfl | rfl | rfl | rfl | rfl | rfl | rfl | rfl | rfl | rfl | rfl | rfl | rfl : n = 0 ∨ n = 1 ∨ n = 2 ∨ n = 3 ∨ n = 4 ∨ n = 5 ∨ n = 6 ∨ n = 7 ∨ n = 8 ∨ n = 9 ∨ n = 10 ∨ n = 11 ∨ n = 12 ∨ n = 13 ∨ n = 14 ∨ n = 15 := by omega
  ·exact line_0 b c d hc hd up w H
  ·exact line_1 b c d hc hd up w H
  ·exact line_two b c d up w H
  ·exact line_3 b c d hc hd up w H
  ·exact line_4 b c d hc hd up w H
  ·exact line_5 b c d hc hd up w H
  ·exact line_6 b c d hc hd up w H
  ·exact line_7 b c d hc hd up w H
  ·exact line_8 b c d hc hd up w H
  ·exact line_9 b c d hc hd up w H
  ·exact line_10 b c d hc hd up w H
  ·exact line_11 b c d hc hd up w H
  ·exact line_12 b c d hc hd up w H
  ·exact line_13 b c d hc hd up w H
  ·exact line_14 b c d hc hd up w H
  ·exact line_15 b c d hc hd up w H
 ·have h0 : lineGood n = false := by
    unfold lineGood
    rw [← Bool.decide_and]
    exact decide_eq_false hn
  refine (line_bad b n up w (by omega)).mono ?_
  rintro e w1 ⟨rfl, rfl⟩
  have u1 : lnc c n up = c := if_neg (by omega)
  have u2 : lnd d n up = d := if_neg (by omega)
  rw [h0, u1, u2]
  exact ⟨rfl, H, Keeps.refl _ _⟩
end Go.Proofs.YtojmpdddfnkffaaGreat.Pic

/- pic: with; Out; In; New. -/
namespace Go.Proofs.YtojmpdddfnkffaaGreat.Pic
open Go.RowKit
set_option linter.unusedVariables false
set_option linter.unusedSimpArgs false

theorem cfOut (args : Array Value) (w : World) : (callFunc 101 args).run Tryz.prog w = .ok (Next.enter 101 args) w := by kernel_rfl
theorem cfIn (args : Array Value) (w : World) : (callFunc 103 args).run Tryz.prog w = .ok (Next.enter 103 args) w := by kernel_rfl

theorem with_out_0 (b k : Nat) (c d : Chip) (hok : c.ok) (v : Nat) (hv : v < 256) (w : World) (H : Pair w b c d) (kv : w.cell? ⟨k, 0, none⟩ = some (.int .u8 v)) (hkb : k ≠ b) :
    Calls Tryz.prog 100 #[.pointer (some ⟨b, 0, none⟩), .int .i64 0, .func (.func 101) #[] #[.pointer (some ⟨k, 0, none⟩)]] w fun r w' => r = .returned (.int .i64 0) ∧ Pair w' b (outC c true v) d ∧ Keeps (· = b) w w' := by
 have hcf := cfOut
 have kf := H.facts.2.2.2.2.2.2.2.2.2.2.2.2.2.2.2.2.2.2.2.2.1
 have hx := out1_c b k c d hok true v hv w H kv hkb
 have HX := Lib.hid hx
 clear hx
 go_enter Tryz.func100, Tryz.ntmps100
 go_wp2_with fail
 refine HX.out.mono ?_
 rintro r w1 ⟨rfl, H1, hk⟩
 go_wp2_with fail
 go_returns
 exact ⟨rfl, H1, hk⟩

theorem with_out_1 (b k : Nat) (c d : Chip) (hok : c.ok) (v : Nat) (hv : v < 256) (w : World) (H : Pair w b c d) (kv : w.cell? ⟨k, 0, none⟩ = some (.int .u8 v)) (hkb : k ≠ b) :
    Calls Tryz.prog 100 #[.pointer (some ⟨b, 0, none⟩), .int .i64 1, .func (.func 101) #[] #[.pointer (some ⟨k, 0, none⟩)]] w fun r w' => r = .returned (.int .i64 0) ∧ Pair w' b (outC c false v) d ∧ Keeps (· = b) w w' := by
 have hcf := cfOut
 have kf := H.facts.2.2.2.2.2.2.2.2.2.2.2.2.2.2.2.2.2.2.2.2.1
 have hx := out1_c b k c d hok false v hv w H kv hkb
 have HX := Lib.hid hx
 clear hx
 go_enter Tryz.func100, Tryz.ntmps100
 go_wp2_with fail
 refine HX.out.mono ?_
 rintro r w1 ⟨rfl, H1, hk⟩
 go_wp2_with fail
 go_returns
 exact ⟨rfl, H1, hk⟩

theorem with_out_2 (b k : Nat) (c d : Chip) (hok : d.ok) (v : Nat) (hv : v < 256) (w : World) (H : Pair w b c d) (kv : w.cell? ⟨k, 0, none⟩ = some (.int .u8 v)) (hkb : k ≠ b) :
    Calls Tryz.prog 100 #[.pointer (some ⟨b, 0, none⟩), .int .i64 2, .func (.func 101) #[] #[.pointer (some ⟨k, 0, none⟩)]] w fun r w' => r = .returned (.int .i64 0) ∧ Pair w' b c (outC d true v) ∧ Keeps (· = b) w w' := by
 have hcf := cfOut
 have kf := H.facts.2.2.2.2.2.2.2.2.2.2.2.2.2.2.2.2.2.2.2.2.1
 have hx := out1_d b k c d hok true v hv w H kv hkb
 have HX := Lib.hid hx
 clear hx
 go_enter Tryz.func100, Tryz.ntmps100
 go_wp2_with fail
 refine HX.out.mono ?_
 rintro r w1 ⟨rfl, H1, hk⟩
 go_wp2_with fail
 go_returns
 exact ⟨rfl, H1, hk⟩

theorem with_out_3 (b k : Nat) (c d : Chip) (hok : d.ok) (v : Nat) (hv : v < 256) (w : World) (H : Pair w b c d) (kv : w.cell? ⟨k, 0, none⟩ = some (.int .u8 v)) (hkb : k ≠ b) :
    Calls Tryz.prog 100 #[.pointer (some ⟨b, 0, none⟩), .int .i64 3, .func (.func 101) #[] #[.pointer (some ⟨k, 0, none⟩)]] w fun r w' => r = .returned (.int .i64 0) ∧ Pair w' b c (outC d false v) ∧ Keeps (· = b) w w' := by
 have hcf := cfOut
 have kf := H.facts.2.2.2.2.2.2.2.2.2.2.2.2.2.2.2.2.2.2.2.2.1
 have hx := out1_d b k c d hok false v hv w H kv hkb
 have HX := Lib.hid hx
 clear hx
 go_enter Tryz.func100, Tryz.ntmps100
 go_wp2_with fail
 refine HX.out.mono ?_
 rintro r w1 ⟨rfl, H1, hk⟩
 go_wp2_with fail
 go_returns
 exact ⟨rfl, H1, hk⟩

def portGood (n : Int) : Bool := decide (0 ≤ n) && decide (n ≤ 3)
def perr (n : Int) : Int := if portGood n then 0 else 1
theorem perr_bad {n : Int} (h : portGood n = false) : perr n = 1 := by unfold perr; rw [h]; rfl
theorem with_bad (b : Nat) (f : Value) (n : Int) (h : n < 0 ∨ 3 < n) (w : World) :
    Calls Tryz.prog 100 #[.pointer (some ⟨b, 0, none⟩), .int .i64 n, f] w fun r w' => r = .returned (.int .i64 1) ∧ w = w' := by
 rcases h with h | h
 all_goals
  go_enter Tryz.func100, Tryz.ntmps100
  go_wp2_with fail
  go_returns
  exact ⟨rfl, rfl⟩
def otc (c : Chip) (n : Int) (v : Nat) : Chip := if n = 0 then outC c true v else if n = 1 then outC c false v else c
def otd (d : Chip) (n : Int) (v : Nat) : Chip := if n = 2 then outC d true v else if n = 3 then outC d false v else d

theorem with_out (b k : Nat) (c d : Chip) (hc : c.ok) (hd : d.ok) (n : Int) (v : Nat) (hv : v < 256) (w : World) (H : Pair w b c d) (kv : w.cell? ⟨k, 0, none⟩ = some (.int .u8 v)) (hkb : k ≠ b) :
    Calls Tryz.prog 100 #[.pointer (some ⟨b, 0, none⟩), .int .i64 n, .func (.func 101) #[] #[.pointer (some ⟨k, 0, none⟩)]] w fun r w' => r = .returned (.int .i64 (perr n)) ∧ Pair w' b (otc c n v) (otd d n v) ∧ Keeps (· = b) w w' := by
 by_cases hn : 0 ≤ n ∧ n ≤ 3
 ·obtain rfl | rfl | rfl | rfl : n = 0 ∨ n = 1 ∨ n = 2 ∨ n = 3 := by omega
  ·exact with_out_0 b k c d hc v hv w H kv hkb
  ·exact with_out_1 b k c d hc v hv w H kv hkb
  ·exact with_out_2 b k c d hd v hv w H kv hkb
  ·exact with_out_3 b k c d hd v hv w H kv hkb
 ·have h0 : portGood n = false := by
    unfold portGood
    rw [← Bool.decide_and]
    exact decide_eq_false hn
  refine (with_bad b _ n (by omega) w).mono ?_
  rintro e w1 ⟨rfl, rfl⟩
  have u1 : otc c n v = c := by unfold otc; rw [if_neg (by omega), if_neg (by omega)]
  have u2 : otd d n v = d := by unfold otd; rw [if_neg (by omega), if_neg (by omega)]
  rw [perr_bad h0, u1, u2]
  exact ⟨rfl, H, Keeps.refl _ _⟩

theorem out_any (b : Nat) (c d : Chip) (hc : c.ok) (hd : d.ok) (n : Int) (v : Nat) (hv : v < 256) (w : World) (H : Pair w b c d) :
    Calls Tryz.prog 68 #[.pointer (some ⟨b, 0, none⟩), .int .i64 n, .int .u8 v] w fun r w' => r = .returned (.int .i64 (perr n)) ∧ Pair w' b (otc c n v) (otd d n v) ∧ Keeps (· = b) w w' := by
 have hlt := heap_lt H
 go_enter Tryz.func68, Tryz.ntmps68
 go_wp2_with fail
 refine (with_out b w.heap.size c d hc hd n v hv _ (heap_alloc_lt H) (by rw [cell_at (heap_new w (.cells #[.int .u8 v] _))]; rfl) (by omega)).mono ?_
 rintro r w1 ⟨rfl, H1, hk⟩
 go_wp2_with fail
 go_returns
 exact ⟨rfl, H1, Keeps.trans ((Keeps.refl _ _).alloc _) hk⟩
end Go.Proofs.YtojmpdddfnkffaaGreat.Pic

/- pic: In; New. -/
namespace Go.Proofs.YtojmpdddfnkffaaGreat.Pic
open Go.RowKit
set_option linter.unusedVariables false
set_option linter.unusedSimpArgs false

def inv0 (c : Chip) (a : Nat) : Nat := if c.told then c.served else a

theorem in1_0 (b ko kp kn : Nat) (T T1 T2 : Nat) (c d : Chip) (hc : c.ok) (hd : d.ok) (w : World) (H : Pair w b c d) (hko : w.heap[ko]? = some (.cells #[.int .u8 0] T)) (hkp : w.heap[kp]? = some (.cells #[.pointer (some ⟨b, 0, none⟩)] T1)) (hkn : w.heap[kn]? = some (.cells #[.int .i64 0] T2)) (n1 : b ≠ ko) (n2 : kp ≠ ko) (n3 : kn ≠ ko) :
    Calls Tryz.prog 103 #[.pointer (some ⟨b, 0, none⟩), .bool true, .pointer (some ⟨ko, 0, none⟩), .pointer (some ⟨kp, 0, none⟩), .pointer (some ⟨kn, 0, none⟩)] w fun r w' => r = .returned (.tuple #[]) ∧ w'.heap[ko]? = some (.cells #[.int .u8 (inv0 c (ask0 c d) : Nat)] T) ∧ Keeps (· = ko) w w' := by
 obtain ⟨k0, k1, k2, k3, k4, k5, k6, k7, k8, k9, k10, k11, k12, k13, k14, k15, k16, k17, k18, k19, kf, klt⟩ := H.facts
 have c0 : w.cell? ⟨ko, 0, none⟩ = some (.int .u8 0) := by rw [cell_at hko]; rfl
 have c1 : w.cell? ⟨kp, 0, none⟩ = some (.pointer (some ⟨b, 0, none⟩)) := by rw [cell_at hkp]; rfl
 have c2 : w.cell? ⟨kn, 0, none⟩ = some (.int .i64 0) := by rw [cell_at hkn]; rfl
 have f0 : ∀ k, w.frozen? ⟨ko, k, none⟩ = false := fun k => free_at hko
 have HC := Lib.hid hc
 have HD := Lib.hid hd
 clear hc hd
 cases ht : c.told
 all_goals
  have HT := Lib.hid ht
  go_enter Tryz.func103, Tryz.ntmps103
  go_wp2_with fail
  try
   refine (asking0_any b c d HC.out HD.out w H).mono ?_
   rintro r w1 ⟨rfl, n, rfl⟩
   go_wp2_with fail
  go_returns
  refine ⟨rfl, ?_, by (repeat' (first | (with_reducible exact Keeps.refl _ _) | (with_reducible exact hk) | (with_reducible refine Keeps.setOne ?_ _ _) | (with_reducible refine Keeps.alloc ?_ _) | (with_reducible refine Keeps.drew ?_) | (with_reducible refine Keeps.drewN ?_ _)))⟩
  try unfold inv0
  (first | (simp only [heap_set_map, putObj_cells, hko, Option.map_some, List.set_cons_succ, List.set_cons_zero, heap_drewN, heap_drew]; done) | (simp only [heap_set_map, putObj_cells, hko, Option.map_some, List.set_cons_succ, List.set_cons_zero, heap_drewN, heap_drew]; rfl) | (simp only [heap_set_map, putObj_cells, hko, Option.map_some, List.set_cons_succ, List.set_cons_zero, heap_drewN, heap_drew, ht]; rfl))

theorem with_in_0 (b ko kp kn : Nat) (T T1 T2 : Nat) (c d : Chip) (hc : c.ok) (hd : d.ok) (w : World) (H : Pair w b c d) (hko : w.heap[ko]? = some (.cells #[.int .u8 0] T)) (hkp : w.heap[kp]? = some (.cells #[.pointer (some ⟨b, 0, none⟩)] T1)) (hkn : w.heap[kn]? = some (.cells #[.int .i64 0] T2)) (n1 : b ≠ ko) (n2 : kp ≠ ko) (n3 : kn ≠ ko) :
    Calls Tryz.prog 100 #[.pointer (some ⟨b, 0, none⟩), .int .i64 0, .func (.func 103) #[] #[.pointer (some ⟨ko, 0, none⟩), .pointer (some ⟨kp, 0, none⟩), .pointer (some ⟨kn, 0, none⟩)]] w fun r w' => r = .returned (.int .i64 0) ∧ w'.heap[ko]? = some (.cells #[.int .u8 (inv0 c (ask0 c d) : Nat)] T) ∧ Keeps (· = ko) w w' := by
 have hcf := cfIn
 have hx := in1_0 b ko kp kn T T1 T2 c d hc hd w H hko hkp hkn n1 n2 n3
 have HX := Lib.hid hx
 clear hx
 go_enter Tryz.func100, Tryz.ntmps100
 go_wp2_with fail
 refine HX.out.mono ?_
 rintro r w1 ⟨rfl, H1, hk⟩
 go_wp2_with fail
 go_returns
 exact ⟨rfl, H1, hk⟩

theorem in1_1 (b ko kp kn : Nat) (T T1 T2 : Nat) (c d : Chip) (hc : c.ok) (hd : d.ok) (w : World) (H : Pair w b c d) (hko : w.heap[ko]? = some (.cells #[.int .u8 0] T)) (hkp : w.heap[kp]? = some (.cells #[.pointer (some ⟨b, 0, none⟩)] T1)) (hkn : w.heap[kn]? = some (.cells #[.int .i64 1] T2)) (n1 : b ≠ ko) (n2 : kp ≠ ko) (n3 : kn ≠ ko) :
    Calls Tryz.prog 103 #[.pointer (some ⟨b, 0, none⟩), .bool false, .pointer (some ⟨ko, 0, none⟩), .pointer (some ⟨kp, 0, none⟩), .pointer (some ⟨kn, 0, none⟩)] w fun r w' => r = .returned (.tuple #[]) ∧ w'.heap[ko]? = some (.cells #[.int .u8 (c.masked : Nat)] T) ∧ Keeps (· = ko) w w' := by
 obtain ⟨k0, k1, k2, k3, k4, k5, k6, k7, k8, k9, k10, k11, k12, k13, k14, k15, k16, k17, k18, k19, kf, klt⟩ := H.facts
 have c0 : w.cell? ⟨ko, 0, none⟩ = some (.int .u8 0) := by rw [cell_at hko]; rfl
 have c1 : w.cell? ⟨kp, 0, none⟩ = some (.pointer (some ⟨b, 0, none⟩)) := by rw [cell_at hkp]; rfl
 have c2 : w.cell? ⟨kn, 0, none⟩ = some (.int .i64 1) := by rw [cell_at hkn]; rfl
 have f0 : ∀ k, w.frozen? ⟨ko, k, none⟩ = false := fun k => free_at hko
 have HC := Lib.hid hc
 have HD := Lib.hid hd
 clear hc hd
 cases ht : c.told
 all_goals
  have HT := Lib.hid ht
  go_enter Tryz.func103, Tryz.ntmps103
  go_wp2_with fail
  go_returns
  refine ⟨rfl, ?_, by (repeat' (first | (with_reducible exact Keeps.refl _ _) | (with_reducible exact hk) | (with_reducible refine Keeps.setOne ?_ _ _) | (with_reducible refine Keeps.alloc ?_ _) | (with_reducible refine Keeps.drew ?_) | (with_reducible refine Keeps.drewN ?_ _)))⟩
  try unfold inv0
  (first | (simp only [heap_set_map, putObj_cells, hko, Option.map_some, List.set_cons_succ, List.set_cons_zero, heap_drewN, heap_drew]; done) | (simp only [heap_set_map, putObj_cells, hko, Option.map_some, List.set_cons_succ, List.set_cons_zero, heap_drewN, heap_drew]; rfl) | (simp only [heap_set_map, putObj_cells, hko, Option.map_some, List.set_cons_succ, List.set_cons_zero, heap_drewN, heap_drew, ht]; rfl))

theorem with_in_1 (b ko kp kn : Nat) (T T1 T2 : Nat) (c d : Chip) (hc : c.ok) (hd : d.ok) (w : World) (H : Pair w b c d) (hko : w.heap[ko]? = some (.cells #[.int .u8 0] T)) (hkp : w.heap[kp]? = some (.cells #[.pointer (some ⟨b, 0, none⟩)] T1)) (hkn : w.heap[kn]? = some (.cells #[.int .i64 1] T2)) (n1 : b ≠ ko) (n2 : kp ≠ ko) (n3 : kn ≠ ko) :
    Calls Tryz.prog 100 #[.pointer (some ⟨b, 0, none⟩), .int .i64 1, .func (.func 103) #[] #[.pointer (some ⟨ko, 0, none⟩), .pointer (some ⟨kp, 0, none⟩), .pointer (some ⟨kn, 0, none⟩)]] w fun r w' => r = .returned (.int .i64 0) ∧ w'.heap[ko]? = some (.cells #[.int .u8 (c.masked : Nat)] T) ∧ Keeps (· = ko) w w' := by
 have hcf := cfIn
 have hx := in1_1 b ko kp kn T T1 T2 c d hc hd w H hko hkp hkn n1 n2 n3
 have HX := Lib.hid hx
 clear hx
 go_enter Tryz.func100, Tryz.ntmps100
 go_wp2_with fail
 refine HX.out.mono ?_
 rintro r w1 ⟨rfl, H1, hk⟩
 go_wp2_with fail
 go_returns
 exact ⟨rfl, H1, hk⟩

theorem in1_2 (b ko kp kn : Nat) (T T1 T2 : Nat) (c d : Chip) (hc : c.ok) (hd : d.ok) (w : World) (H : Pair w b c d) (hko : w.heap[ko]? = some (.cells #[.int .u8 0] T)) (hkp : w.heap[kp]? = some (.cells #[.pointer (some ⟨b, 0, none⟩)] T1)) (hkn : w.heap[kn]? = some (.cells #[.int .i64 2] T2)) (n1 : b ≠ ko) (n2 : kp ≠ ko) (n3 : kn ≠ ko) :
    Calls Tryz.prog 103 #[.pointer (some ⟨b, 10, none⟩), .bool true, .pointer (some ⟨ko, 0, none⟩), .pointer (some ⟨kp, 0, none⟩), .pointer (some ⟨kn, 0, none⟩)] w fun r w' => r = .returned (.tuple #[]) ∧ w'.heap[ko]? = some (.cells #[.int .u8 (inv0 d d.asks : Nat)] T) ∧ Keeps (· = ko) w w' := by
 obtain ⟨k0, k1, k2, k3, k4, k5, k6, k7, k8, k9, k10, k11, k12, k13, k14, k15, k16, k17, k18, k19, kf, klt⟩ := H.facts
 have c0 : w.cell? ⟨ko, 0, none⟩ = some (.int .u8 0) := by rw [cell_at hko]; rfl
 have c1 : w.cell? ⟨kp, 0, none⟩ = some (.pointer (some ⟨b, 0, none⟩)) := by rw [cell_at hkp]; rfl
 have c2 : w.cell? ⟨kn, 0, none⟩ = some (.int .i64 2) := by rw [cell_at hkn]; rfl
 have f0 : ∀ k, w.frozen? ⟨ko, k, none⟩ = false := fun k => free_at hko
 have HC := Lib.hid hc
 have HD := Lib.hid hd
 clear hc hd
 cases ht : d.told
 all_goals
  have HT := Lib.hid ht
  go_enter Tryz.func103, Tryz.ntmps103
  go_wp2_with fail
  try
   refine (asking1_any b c d w H).mono ?_
   rintro r w1 ⟨rfl, rfl⟩
   go_wp2_with fail
  go_returns
  refine ⟨rfl, ?_, by (repeat' (first | (with_reducible exact Keeps.refl _ _) | (with_reducible exact hk) | (with_reducible refine Keeps.setOne ?_ _ _) | (with_reducible refine Keeps.alloc ?_ _) | (with_reducible refine Keeps.drew ?_) | (with_reducible refine Keeps.drewN ?_ _)))⟩
  try unfold inv0
  (first | (simp only [heap_set_map, putObj_cells, hko, Option.map_some, List.set_cons_succ, List.set_cons_zero, heap_drewN, heap_drew]; done) | (simp only [heap_set_map, putObj_cells, hko, Option.map_some, List.set_cons_succ, List.set_cons_zero, heap_drewN, heap_drew]; rfl) | (simp only [heap_set_map, putObj_cells, hko, Option.map_some, List.set_cons_succ, List.set_cons_zero, heap_drewN, heap_drew, ht]; rfl))

theorem with_in_2 (b ko kp kn : Nat) (T T1 T2 : Nat) (c d : Chip) (hc : c.ok) (hd : d.ok) (w : World) (H : Pair w b c d) (hko : w.heap[ko]? = some (.cells #[.int .u8 0] T)) (hkp : w.heap[kp]? = some (.cells #[.pointer (some ⟨b, 0, none⟩)] T1)) (hkn : w.heap[kn]? = some (.cells #[.int .i64 2] T2)) (n1 : b ≠ ko) (n2 : kp ≠ ko) (n3 : kn ≠ ko) :
    Calls Tryz.prog 100 #[.pointer (some ⟨b, 0, none⟩), .int .i64 2, .func (.func 103) #[] #[.pointer (some ⟨ko, 0, none⟩), .pointer (some ⟨kp, 0, none⟩), .pointer (some ⟨kn, 0, none⟩)]] w fun r w' => r = .returned (.int .i64 0) ∧ w'.heap[ko]? = some (.cells #[.int .u8 (inv0 d d.asks : Nat)] T) ∧ Keeps (· = ko) w w' := by
 have hcf := cfIn
 have hx := in1_2 b ko kp kn T T1 T2 c d hc hd w H hko hkp hkn n1 n2 n3
 have HX := Lib.hid hx
 clear hx
 go_enter Tryz.func100, Tryz.ntmps100
 go_wp2_with fail
 refine HX.out.mono ?_
 rintro r w1 ⟨rfl, H1, hk⟩
 go_wp2_with fail
 go_returns
 exact ⟨rfl, H1, hk⟩

theorem in1_3 (b ko kp kn : Nat) (T T1 T2 : Nat) (c d : Chip) (hc : c.ok) (hd : d.ok) (w : World) (H : Pair w b c d) (hko : w.heap[ko]? = some (.cells #[.int .u8 0] T)) (hkp : w.heap[kp]? = some (.cells #[.pointer (some ⟨b, 0, none⟩)] T1)) (hkn : w.heap[kn]? = some (.cells #[.int .i64 3] T2)) (n1 : b ≠ ko) (n2 : kp ≠ ko) (n3 : kn ≠ ko) :
    Calls Tryz.prog 103 #[.pointer (some ⟨b, 10, none⟩), .bool false, .pointer (some ⟨ko, 0, none⟩), .pointer (some ⟨kp, 0, none⟩), .pointer (some ⟨kn, 0, none⟩)] w fun r w' => r = .returned (.tuple #[]) ∧ w'.heap[ko]? = some (.cells #[.int .u8 (d.masked : Nat)] T) ∧ Keeps (· = ko) w w' := by
 obtain ⟨k0, k1, k2, k3, k4, k5, k6, k7, k8, k9, k10, k11, k12, k13, k14, k15, k16, k17, k18, k19, kf, klt⟩ := H.facts
 have c0 : w.cell? ⟨ko, 0, none⟩ = some (.int .u8 0) := by rw [cell_at hko]; rfl
 have c1 : w.cell? ⟨kp, 0, none⟩ = some (.pointer (some ⟨b, 0, none⟩)) := by rw [cell_at hkp]; rfl
 have c2 : w.cell? ⟨kn, 0, none⟩ = some (.int .i64 3) := by rw [cell_at hkn]; rfl
 have f0 : ∀ k, w.frozen? ⟨ko, k, none⟩ = false := fun k => free_at hko
 have HC := Lib.hid hc
 have HD := Lib.hid hd
 clear hc hd
 cases ht : d.told
 all_goals
  have HT := Lib.hid ht
  go_enter Tryz.func103, Tryz.ntmps103
  go_wp2_with fail
  go_returns
  refine ⟨rfl, ?_, by (repeat' (first | (with_reducible exact Keeps.refl _ _) | (with_reducible exact hk) | (with_reducible refine Keeps.setOne ?_ _ _) | (with_reducible refine Keeps.alloc ?_ _) | (with_reducible refine Keeps.drew ?_) | (with_reducible refine Keeps.drewN ?_ _)))⟩
  try unfold inv0
  (first | (simp only [heap_set_map, putObj_cells, hko, Option.map_some, List.set_cons_succ, List.set_cons_zero, heap_drewN, heap_drew]; done) | (simp only [heap_set_map, putObj_cells, hko, Option.map_some, List.set_cons_succ, List.set_cons_zero, heap_drewN, heap_drew]; rfl) | (simp only [heap_set_map, putObj_cells, hko, Option.map_some, List.set_cons_succ, List.set_cons_zero, heap_drewN, heap_drew, ht]; rfl))

theorem with_in_3 (b ko kp kn : Nat) (T T1 T2 : Nat) (c d : Chip) (hc : c.ok) (hd : d.ok) (w : World) (H : Pair w b c d) (hko : w.heap[ko]? = some (.cells #[.int .u8 0] T)) (hkp : w.heap[kp]? = some (.cells #[.pointer (some ⟨b, 0, none⟩)] T1)) (hkn : w.heap[kn]? = some (.cells #[.int .i64 3] T2)) (n1 : b ≠ ko) (n2 : kp ≠ ko) (n3 : kn ≠ ko) :
    Calls Tryz.prog 100 #[.pointer (some ⟨b, 0, none⟩), .int .i64 3, .func (.func 103) #[] #[.pointer (some ⟨ko, 0, none⟩), .pointer (some ⟨kp, 0, none⟩), .pointer (some ⟨kn, 0, none⟩)]] w fun r w' => r = .returned (.int .i64 0) ∧ w'.heap[ko]? = some (.cells #[.int .u8 (d.masked : Nat)] T) ∧ Keeps (· = ko) w w' := by
 have hcf := cfIn
 have hx := in1_3 b ko kp kn T T1 T2 c d hc hd w H hko hkp hkn n1 n2 n3
 have HX := Lib.hid hx
 clear hx
 go_enter Tryz.func100, Tryz.ntmps100
 go_wp2_with fail
 refine HX.out.mono ?_
 rintro r w1 ⟨rfl, H1, hk⟩
 go_wp2_with fail
 go_returns
 exact ⟨rfl, H1, hk⟩

def inv (c d : Chip) (n : Int) : Nat := if n = 0 then inv0 c (ask0 c d) else if n = 1 then c.masked else if n = 2 then inv0 d d.asks else if n = 3 then d.masked else 0
theorem with_in (b ko kp kn : Nat) (T T1 T2 : Nat) (c d : Chip) (hc : c.ok) (hd : d.ok) (n : Int) (w : World) (H : Pair w b c d) (hko : w.heap[ko]? = some (.cells #[.int .u8 0] T)) (hkp : w.heap[kp]? = some (.cells #[.pointer (some ⟨b, 0, none⟩)] T1)) (hkn : w.heap[kn]? = some (.cells #[.int .i64 n] T2)) (n1 : b ≠ ko) (n2 : kp ≠ ko) (n3 : kn ≠ ko) :
    Calls Tryz.prog 100 #[.pointer (some ⟨b, 0, none⟩), .int .i64 n, .func (.func 103) #[] #[.pointer (some ⟨ko, 0, none⟩), .pointer (some ⟨kp, 0, none⟩), .pointer (some ⟨kn, 0, none⟩)]] w fun r w' => r = .returned (.int .i64 (perr n)) ∧ w'.heap[ko]? = some (.cells #[.int .u8 (inv c d n : Nat)] T) ∧ Keeps (· = ko) w w' := by
 by_cases hn : 0 ≤ n ∧ n ≤ 3
 ·obtain rfl | rfl | rfl | rfl : n = 0 ∨ n = 1 ∨ n = 2 ∨ n = 3 := by omega
  ·exact with_in_0 b ko kp kn T T1 T2 c d hc hd w H hko hkp hkn n1 n2 n3
  ·exact with_in_1 b ko kp kn T T1 T2 c d hc hd w H hko hkp hkn n1 n2 n3
  ·exact with_in_2 b ko kp kn T T1 T2 c d hc hd w H hko hkp hkn n1 n2 n3
  ·exact with_in_3 b ko kp kn T T1 T2 c d hc hd w H hko hkp hkn n1 n2 n3
 ·have h0 : portGood n = false := by
    unfold portGood
    rw [← Bool.decide_and]
    exact decide_eq_false hn
  refine (with_bad b _ n (by omega) w).mono ?_
  rintro e w1 ⟨rfl, rfl⟩
  have u1 : inv c d n = 0 := by unfold inv; rw [if_neg (by omega), if_neg (by omega), if_neg (by omega), if_neg (by omega)]
  rw [perr_bad h0, u1]
  exact ⟨rfl, hko, Keeps.refl _ _⟩

theorem in_any (b : Nat) (c d : Chip) (hc : c.ok) (hd : d.ok) (n : Int) (w : World) (H : Pair w b c d) :
    Calls Tryz.prog 69 #[.pointer (some ⟨b, 0, none⟩), .int .i64 n] w fun r w' => r = .returned (.tuple #[.int .u8 (inv c d n : Nat), .int .i64 (perr n)]) ∧ Below w.heap.size w w' := by
 have hlt := heap_lt H
 go_enter Tryz.func69, Tryz.ntmps69
 go_wp2_with fail
 have g1 := heap_alloc_lt (o' := .cells #[.int .u8 0] 5) (heap_alloc_lt (o' := .cells #[.int .i64 n] 3) (heap_new w (.cells #[.pointer (some ⟨b, 0, none⟩)] 74)))
 have g2 := heap_alloc_lt (o' := .cells #[.int .u8 0] 5) (heap_new (w.alloc (.cells #[.pointer (some ⟨b, 0, none⟩)] 74)) (.cells #[.int .i64 n] 3))
 have g3 := heap_new ((w.alloc (.cells #[.pointer (some ⟨b, 0, none⟩)] 74)).alloc (.cells #[.int .i64 n] 3)) (.cells #[.int .u8 0] 5)
 simp only [World.size_alloc] at g2 g3
 refine (with_in b (w.heap.size + 1 + 1) w.heap.size (w.heap.size + 1) _ _ _ c d hc hd n _ (heap_alloc_lt (heap_alloc_lt (heap_alloc_lt H))) g3 g1 g2 (by omega) (by omega) (by omega)).mono ?_
 rintro r w1 ⟨rfl, hv, hk⟩
 have cv : w1.cell? ⟨w.heap.size + 1 + 1, 0, none⟩ = some (.int .u8 (inv c d n : Nat)) := by rw [cell_at hv]; rfl
 clear g1 g2 g3 hv
 go_wp2_with fail
 go_ret2
 exact ⟨rfl, Keeps.toBelow (by go_grown) hk (by simp only [World.size_alloc]; omega) (fun i hi => by omega)⟩
def lerr (n : Int) : Int := if lineGood n then 0 else 1
theorem line_e (b : Nat) (c d : Chip) (hc : c.ok) (hd : d.ok) (n : Int) (up : Bool) (w : World) (H : Pair w b c d) :
    Calls Tryz.prog 74 #[.pointer (some ⟨b, 0, none⟩), .int .i64 n, .bool up] w fun e w' => e = .returned (.int .i64 (lerr n)) ∧ Pair w' b (lnc c n up) (lnd d n up) ∧ Keeps (· = b) w w' := line_any b c d hc hd n up w H

def chip0 : Chip := Chip.mk 0 0 0 0 0 false false 0 false false
theorem chip0_ok : chip0.ok := ⟨by decide, by decide, by decide, by decide, by decide, by decide⟩
theorem new_any (w : World) : Calls Tryz.prog 24 #[] w fun e w' => e = .returned (.pointer (some ⟨w.heap.size, 0, none⟩)) ∧ Pair w' w.heap.size chip0 chip0 ∧ Below w.heap.size w w' := by
 go_enter Tryz.func24, Tryz.ntmps24
 go_wp2_with fail
 go_returns
 exact ⟨rfl, heap_new w _, by go_grown⟩
end Go.Proofs.YtojmpdddfnkffaaGreat.Pic

/- pic: setup; awake. -/
namespace Go.Proofs.YtojmpdddfnkffaaGreat.Pic
open Go.RowKit
set_option linter.unusedVariables false
set_option linter.unusedSimpArgs false

theorem below_drewN {B : Nat} {w a : World} (h : Below B w a) (n : Nat) : Below B w (a.drewN n) := ⟨h.os, h.tape, h.output, h.size, h.block⟩
def setC (b : Nat) : Chip := Chip.mk 0 0 0 0 b false false 0 true true
theorem setC_ok (b : Nat) (hb : b < 256) : (setC b).ok := ⟨by show (0:Nat) < 256; decide, by show (0:Nat) < 256; decide, by show (0:Nat) < 256; decide, by show (0:Nat) < 256; decide, hb, by show (0:Nat) < 4; decide⟩

theorem mk_ok (a s m u bs st : Nat) (t e x y : Bool) (h1 : a < 256) (h2 : s < 256) (h3 : m < 256) (h4 : u < 256) (h5 : bs < 256) (h6 : st < 4) : (Chip.mk a s m u bs t e st x y).ok := ⟨h1, h2, h3, h4, h5, h6⟩

end Go.Proofs.YtojmpdddfnkffaaGreat.Pic

/- pic: a pair of chips of the call's own, its calls one behind the other; which line is told, by bits. -/
namespace Go.Proofs.YtojmpdddfnkffaaGreat.Pic
open Go.RowKit
set_option linter.unusedVariables false

theorem scan_lt4 (s : Nat) (a b : Bool) : scan s a b < 4 := by unfold scan; (repeat' split) <;> omega
theorem onC_ok {c : Chip} (h : c.ok) : (onC c).ok := ⟨h.asks, h.served, h.masked, h.up, h.base, scan_lt4 _ _ _⟩
theorem outC_ok {c : Chip} (h : c.ok) (cm : Bool) (v : Nat) (hv : v < 256) : (outC c cm v).ok := by
 unfold outC
 split
 ·split
  ·exact mk_ok _ _ _ _ _ _ _ _ _ _ (by decide) (by decide) (by decide) h.up h.base (by decide)
  ·split
   ·split
    ·exact ⟨h.asks, h.served, h.masked, h.up, h.base, h.stage⟩
    ·exact h
   ·split
    ·exact ⟨h.asks, Nat.lt_of_le_of_lt Nat.and_le_left h.served, h.masked, h.up, h.base, h.stage⟩
    ·split
     ·exact ⟨h.asks, Nat.lt_of_le_of_lt Nat.and_le_left h.served, h.masked, h.up, h.base, h.stage⟩
     ·exact h
 ·split
  ·exact ⟨h.asks, h.served, hv, h.up, h.base, h.stage⟩
  ·split
   ·exact onC_ok ⟨h.asks, h.served, h.masked, h.up, Nat.lt_of_le_of_lt Nat.and_le_left hv, h.stage⟩
   ·split
    ·exact onC_ok ⟨h.asks, h.served, h.masked, h.up, h.base, h.stage⟩
    ·exact onC_ok h
theorem otc_ok {c : Chip} (h : c.ok) (n : Int) (v : Nat) (hv : v < 256) : (otc c n v).ok := by
 unfold otc
 split
 ·exact outC_ok h _ _ hv
 ·split
  ·exact outC_ok h _ _ hv
  ·exact h
theorem otd_ok {c : Chip} (h : c.ok) (n : Int) (v : Nat) (hv : v < 256) : (otd c n v).ok := by
 unfold otd
 split
 ·exact outC_ok h _ _ hv
 ·split
  ·exact outC_ok h _ _ hv
  ·exact h

structure St (w0 w : World) (b : Nat) (c d : Chip) : Prop where
 P : Pair w b c d
 cok : c.ok
 dok : d.ok
 B : Below w0.heap.size w0 w
 lo : w0.heap.size ≤ b
theorem St.keep {w0 w w' : World} {b : Nat} {c d c' d' : Chip} (S : St w0 w b c d) (H : Pair w' b c' d') (hc : c'.ok) (hd : d'.ok) (k : Keeps (· = b) w w') : St w0 w' b c' d' :=
 ⟨H, hc, hd, Keeps.toBelow S.B k S.B.size (fun i hi => by have := S.lo; omega), S.lo⟩
theorem St.drew {w0 w : World} {b : Nat} {c d : Chip} (S : St w0 w b c d) (n : Nat) : St w0 (w.drewN n) b c d := ⟨S.P, S.cok, S.dok, below_drewN S.B n, S.lo⟩
theorem St.alloc {w0 w : World} {b : Nat} {c d : Chip} (S : St w0 w b c d) (o : Obj) : St w0 (w.alloc o) b c d := ⟨heap_alloc_lt S.P, S.cok, S.dok, S.B.alloc S.B.size _, S.lo⟩
theorem St.of (w0 w : World) (b : Nat) (c d : Chip) (H : Pair w b c d) (hc : c.ok) (hd : d.ok) (B : Below w0.heap.size w0 w) (lo : w0.heap.size ≤ b) : St w0 w b c d := ⟨H, hc, hd, B, lo⟩

set_option maxRecDepth 100000 in
theorem tz8_low : ∀ x : Fin 256, ∀ n : Fin 8, (x.val.testBit n.val = true ∧ ∀ j : Fin 8, j.val < n.val → x.val.testBit j.val = false) → tz8 x.val = n.val := by decide +kernel
set_option maxRecDepth 100000 in
theorem tz8_up : ∀ x : Fin 256, ∀ n : Fin 9, (∀ j : Fin 8, j.val < n.val → x.val.testBit j.val = false) → n.val ≤ tz8 x.val := by decide +kernel
theorem tz8_is {x n : Nat} (hx : x < 256) (hn : n < 8) (h : x.testBit n = true) (hl : ∀ j, j < n → x.testBit j = false) : tz8 x = n :=
 tz8_low ⟨x, hx⟩ ⟨n, hn⟩ ⟨h, fun j hj => hl j.val hj⟩
theorem tz8_ge {x n : Nat} (hx : x < 256) (hn : n ≤ 8) (hl : ∀ j, j < n → x.testBit j = false) : n ≤ tz8 x :=
 tz8_up ⟨x, hx⟩ ⟨n, by omega⟩ (fun j hj => hl j.val hj)
theorem bit_not (m j : Nat) (hm : m < 256) (hj : j < 8) : (255 - m).testBit j = !m.testBit j := by
 have h : ∀ m : Fin 256, ∀ j : Fin 8, (255 - m.val).testBit j.val = !m.val.testBit j.val := by decide +kernel
 exact h ⟨m, hm⟩ ⟨j, hj⟩
theorem bit_pow (n j : Nat) (hn : n < 8) (hj : j < 8) : (2 ^ n).testBit j = decide (n = j) := by
 have h : ∀ n : Fin 8, ∀ j : Fin 8, (2 ^ n.val).testBit j.val = decide (n.val = j.val) := by decide +kernel
 exact h ⟨n, hn⟩ ⟨j, hj⟩
theorem bit_left (a m j : Nat) (hm : m < 256) (hj : j < 8) : (left a m).testBit j = (a.testBit j && !m.testBit j) := by
 unfold left; rw [Nat.testBit_and, bit_not m j hm hj]
theorem bits_eq {x y : Nat} (hx : x < 256) (hy : y < 256) (h : ∀ j, j < 8 → x.testBit j = y.testBit j) : x = y := by
 refine Nat.eq_of_testBit_eq fun i => ?_
 by_cases hi : i < 8
 ·exact h i hi
 ·have hp : 2 ^ 8 ≤ 2 ^ i := Nat.pow_le_pow_right (by decide) (by omega)
  rw [Nat.testBit_lt_two_pow (Nat.lt_of_lt_of_le hx hp), Nat.testBit_lt_two_pow (Nat.lt_of_lt_of_le hy hp)]
end Go.Proofs.YtojmpdddfnkffaaGreat.Pic

/- Bits of words as arithmetic: fields, masks, disjoint sums. No program in sight. -/
namespace Go.Proofs.YtojmpdddfnkffaaGreat
open Go.RowKit

theorem nat_field (x s k : Nat) : x &&& ((2 ^ k - 1) * 2 ^ s) = x / 2 ^ s % 2 ^ k * 2 ^ s := by
 rw [← Nat.shiftLeft_eq, ← Nat.shiftLeft_eq, ← Nat.shiftRight_eq_div_pow]
 apply Nat.eq_of_testBit_eq
 intro i
 simp only [Nat.testBit_and, Nat.testBit_shiftLeft, Nat.testBit_mod_two_pow, Nat.testBit_shiftRight, Nat.testBit_two_pow_sub_one]
 by_cases h : s ≤ i
 ·have : s + (i - s) = i := by omega
  simp [h, this, Bool.and_comm]
 ·simp [h]

def hbit (n k : Int) : Bool := n / 2 ^ k.toNat % 2 == 1
section
variable (lo hi : Int) (h0 : 0 ≤ lo) (h1 : lo < 4294967296) (h2 : 0 ≤ hi) (h3 : hi < 4294967296)
include h0 h1 h2 h3
end
section
variable (hi : Int) (h2 : 0 ≤ hi) (h3 : hi < 4294967296)
include h2 h3
end
end Go.Proofs.YtojmpdddfnkffaaGreat

/- pit.modes: the table of what each mode does; the five functions in it; a look-up in it. -/
namespace Go.Proofs.YtojmpdddfnkffaaGreat.Pit
open Go.RowKit
set_option linter.unusedVariables false

def modeEs : Array MapEntry := #[⟨.int .u8 0, .agg #[.func (.func 130) #[] #[], .func (.func 131) #[] #[]], 0⟩,
 ⟨.int .u8 2, .agg #[.func (.func 129) #[] #[], .func (.func 132) #[] #[]], 1⟩,
 ⟨.int .u8 3, .agg #[.func (.func 129) #[] #[], .func (.func 133) #[] #[]], 2⟩]

theorem mode_ins (X : World) (n : Nat) (hn : n = X.heap.size) (es : Array MapEntry) (ck : Nat) (a : Int) (v : Value) (hnew : Instr.findNow (.int .u8) (.int .u8 a) es.toList 0 = some none) :
    (Instr.mapUpdate 174 (.map (some n)) (.int .u8 a) v).run Tryz.prog (X.alloc (.map es ck)) = .ok () (X.alloc (.map (es.push ⟨.int .u8 a, v, ck⟩) (ck + 1))) := by
 subst hn
 have hb : (X.alloc (.map es ck)).heap[X.heap.size]? = some (.map es ck) := heap_new X _
 have hset : ({ (X.alloc (.map es ck)) with heap := (X.alloc (.map es ck)).heap.setIfInBounds X.heap.size (.map (es.push ⟨.int .u8 a, v, ck⟩) (ck + 1)) } : World) = X.alloc (.map (es.push ⟨.int .u8 a, v, ck⟩) (ck + 1)) := by
  simp only [World.alloc]
  congr 1
  apply Array.ext_getElem?
  intro k
  rw [Array.getElem?_setIfInBounds]
  simp only [Array.getElem?_push, Array.size_push]
  by_cases h : X.heap.size = k
  ·subst h; simp
  ·simp [h, Ne.symm h]
 have hk : Tryz.prog.underlying 5 = some (.int .u8) := Tryz.underlying5
 simp [Instr.mapUpdate, go_sem, MapKept.run_getObj_map hb, MapKept.run_checkKey hk (show MapKept.IsKey (.int .u8) (.int .u8 a) from rfl), MapKept.run_findKey hk hnew, MapKept.run_setObj_map _ hb]
 exact hset

theorem modes_any (w : World) : Calls Tryz.prog 109 #[] w fun e w' => e = .returned (.map (some w.heap.size)) ∧ w.alloc (.map modeEs 3) = w' := by
 have hmm := @run_makeMap Tryz.prog
 have u0 := fun (X : World) (n : Nat) (hn : n = X.heap.size) v => mode_ins X n hn #[] 0 0 v rfl
 have u1 := fun (X : World) (n : Nat) (hn : n = X.heap.size) v0 v => mode_ins X n hn #[⟨.int .u8 0, v0, 0⟩] 1 2 v rfl
 have u2 := fun (X : World) (n : Nat) (hn : n = X.heap.size) v0 v1 v => mode_ins X n hn #[⟨.int .u8 0, v0, 0⟩, ⟨.int .u8 2, v1, 1⟩] 2 3 v rfl
 simp only [List.push_toArray, List.nil_append, List.cons_append, Nat.reduceAdd] at u0 u1 u2
 go_enter Tryz.func109, Tryz.ntmps109
 go_wp2
 go_ret
 exact ⟨rfl, rfl⟩
end Go.Proofs.YtojmpdddfnkffaaGreat.Pit

