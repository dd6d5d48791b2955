/- PitT, together. -/
import Derived.Test.YtojmpdddfnkffaaMpitb
/- pit: a byte got of any counter. -/
namespace Go.Proofs.Ytojmpdddfnkffaa.Pit
open Go.RowKit
set_option linter.unusedVariables false
set_option linter.unusedSimpArgs false
set_option maxHeartbeats 1000000 in
theorem get0_ttt {w : World} {b : Nat} {c0 c1 c2 : Ct} {t : Int} (H : Tm w b c0 c1 c2) (ok : c0.ok t) (ht : t < 18446744073709551616) (e1 : c0.hd = true) (e2 : c0.up = true) (e3 : (c0.h == 3) = true) :
    Calls Try.prog 76 #[.pointer (some ⟨b, 0, none⟩), .int .i64 0, .int .u64 t] w fun e w' => e = .returned (.tuple #[.int .u8 (c0.v / 256 % 256), .int .i64 0]) ∧ Tm w' b { c0 with hd := false, up := false } c1 c2 ∧ Keeps (· = b) w w' := by
  obtain ⟨k0, k1, k2, k3, k4, k5, k6, k7, k8, k9, kf, klt⟩ := H.f0
  rw [e1] at k8
  rw [e2] at k6
  obtain ⟨hv0, hv1⟩ := ok.v
  go_enter Try.func76, Try.ntmps76
  go_wp2_with fail
  go_region
  all_goals
    go_wp2_with fail
    go_ret2
    exact ⟨by first | rfl | (simp; done) | (simp; omega), by (unfold Tm Ct.cells at H ⊢; simp only [heap_drew, heap_set_map, putObj_cells, H, Option.map_some, List.cons_append, List.nil_append, List.set_cons_succ, List.set_cons_zero, Bool.and_false, Bool.and_true, Bool.true_and, Bool.false_and, Bool.not_true, Bool.not_false, Bool.bne_true, Bool.bne_false]), by (repeat' (first | (with_reducible exact Keeps.refl _ _) | (with_reducible assumption) | (with_reducible refine Keeps.setOne ?_ _ _) | (with_reducible refine Keeps.alloc ?_ _) | (with_reducible refine Keeps.drew ?_)))⟩
set_option maxHeartbeats 1000000 in
theorem get0_ttf {w : World} {b : Nat} {c0 c1 c2 : Ct} {t : Int} (H : Tm w b c0 c1 c2) (ok : c0.ok t) (ht : t < 18446744073709551616) (e1 : c0.hd = true) (e2 : c0.up = true) (e3 : (c0.h == 3) = false) :
    Calls Try.prog 76 #[.pointer (some ⟨b, 0, none⟩), .int .i64 0, .int .u64 t] w fun e w' => e = .returned (.tuple #[.int .u8 (c0.v / 256 % 256), .int .i64 0]) ∧ Tm w' b { c0 with hd := false, up := true } c1 c2 ∧ Keeps (· = b) w w' := by
  obtain ⟨k0, k1, k2, k3, k4, k5, k6, k7, k8, k9, kf, klt⟩ := H.f0
  rw [e1] at k8
  rw [e2] at k6
  obtain ⟨hv0, hv1⟩ := ok.v
  go_enter Try.func76, Try.ntmps76
  go_wp2_with fail
  go_region
  all_goals
    go_wp2_with fail
    go_ret2
    exact ⟨by first | rfl | (simp; done) | (simp; omega), by (unfold Tm Ct.cells at H ⊢; simp only [heap_drew, heap_set_map, putObj_cells, H, Option.map_some, List.cons_append, List.nil_append, List.set_cons_succ, List.set_cons_zero, Bool.and_false, Bool.and_true, Bool.true_and, Bool.false_and, Bool.not_true, Bool.not_false, Bool.bne_true, Bool.bne_false]), by (repeat' (first | (with_reducible exact Keeps.refl _ _) | (with_reducible assumption) | (with_reducible refine Keeps.setOne ?_ _ _) | (with_reducible refine Keeps.alloc ?_ _) | (with_reducible refine Keeps.drew ?_)))⟩
set_option maxHeartbeats 1000000 in
theorem get0_tft {w : World} {b : Nat} {c0 c1 c2 : Ct} {t : Int} (H : Tm w b c0 c1 c2) (ok : c0.ok t) (ht : t < 18446744073709551616) (e1 : c0.hd = true) (e2 : c0.up = false) (e3 : (c0.h == 3) = true) :
    Calls Try.prog 76 #[.pointer (some ⟨b, 0, none⟩), .int .i64 0, .int .u64 t] w fun e w' => e = .returned (.tuple #[.int .u8 (c0.v % 256), .int .i64 0]) ∧ Tm w' b { c0 with hd := true, up := true } c1 c2 ∧ Keeps (· = b) w w' := by
  obtain ⟨k0, k1, k2, k3, k4, k5, k6, k7, k8, k9, kf, klt⟩ := H.f0
  rw [e1] at k8
  rw [e2] at k6
  obtain ⟨hv0, hv1⟩ := ok.v
  go_enter Try.func76, Try.ntmps76
  go_wp2_with fail
  go_region
  all_goals
    go_wp2_with fail
    go_ret2
    exact ⟨by first | rfl | (simp; done) | (simp; omega), by (unfold Tm Ct.cells at H ⊢; simp only [heap_drew, heap_set_map, putObj_cells, H, Option.map_some, List.cons_append, List.nil_append, List.set_cons_succ, List.set_cons_zero, Bool.and_false, Bool.and_true, Bool.true_and, Bool.false_and, Bool.not_true, Bool.not_false, Bool.bne_true, Bool.bne_false]), by (repeat' (first | (with_reducible exact Keeps.refl _ _) | (with_reducible assumption) | (with_reducible refine Keeps.setOne ?_ _ _) | (with_reducible refine Keeps.alloc ?_ _) | (with_reducible refine Keeps.drew ?_)))⟩
set_option maxHeartbeats 1000000 in
theorem get0_tff {w : World} {b : Nat} {c0 c1 c2 : Ct} {t : Int} (H : Tm w b c0 c1 c2) (ok : c0.ok t) (ht : t < 18446744073709551616) (e1 : c0.hd = true) (e2 : c0.up = false) (e3 : (c0.h == 3) = false) :
    Calls Try.prog 76 #[.pointer (some ⟨b, 0, none⟩), .int .i64 0, .int .u64 t] w fun e w' => e = .returned (.tuple #[.int .u8 (c0.v % 256), .int .i64 0]) ∧ Tm w' b { c0 with hd := false, up := false } c1 c2 ∧ Keeps (· = b) w w' := by
  obtain ⟨k0, k1, k2, k3, k4, k5, k6, k7, k8, k9, kf, klt⟩ := H.f0
  rw [e1] at k8
  rw [e2] at k6
  obtain ⟨hv0, hv1⟩ := ok.v
  go_enter Try.func76, Try.ntmps76
  go_wp2_with fail
  go_region
  all_goals
    go_wp2_with fail
    go_ret2
    exact ⟨by first | rfl | (simp; done) | (simp; omega), by (unfold Tm Ct.cells at H ⊢; simp only [heap_drew, heap_set_map, putObj_cells, H, Option.map_some, List.cons_append, List.nil_append, List.set_cons_succ, List.set_cons_zero, Bool.and_false, Bool.and_true, Bool.true_and, Bool.false_and, Bool.not_true, Bool.not_false, Bool.bne_true, Bool.bne_false]), by (repeat' (first | (with_reducible exact Keeps.refl _ _) | (with_reducible assumption) | (with_reducible refine Keeps.setOne ?_ _ _) | (with_reducible refine Keeps.alloc ?_ _) | (with_reducible refine Keeps.drew ?_)))⟩
set_option maxHeartbeats 1000000 in
theorem get0_ftt {w : World} {b : Nat} {c0 c1 c2 : Ct} {t : Int} (H : Tm w b c0 c1 c2) (ok : c0.ok t) (ht : t < 18446744073709551616) (e1 : c0.hd = false) (e2 : c0.up = true) (e3 : (c0.h == 3) = true) :
    Calls Try.prog 76 #[.pointer (some ⟨b, 0, none⟩), .int .i64 0, .int .u64 t] w fun e w' => e = .returned (.tuple #[.int .u8 ((c0.val t) / 256 % 256), .int .i64 0]) ∧ Tm w' b { c0 with hd := false, up := false } c1 c2 ∧ Keeps (· = b) w w' := by
  obtain ⟨k0, k1, k2, k3, k4, k5, k6, k7, k8, k9, kf, klt⟩ := H.f0
  rw [e1] at k8
  rw [e2] at k6
  have hv := Lib.hid ok.val
  go_enter Try.func76, Try.ntmps76
  go_wp2_with fail
  refine (now_ct0 H ok ht).mono ?_
  rintro e w1 ⟨rfl, hb⟩
  have H1 := H.below hb
  clear k0 k1 k2 k3 k4 k5 k6 k7 k8 k9 kf
  obtain ⟨k0, k1, k2, k3, k4, k5, k6, k7, k8, k9, kf, klt1⟩ := H1.f0
  rw [e1] at k8
  rw [e2] at k6
  have hK : Keeps (· = b) w w1 := Keeps.ofBelow hb
  obtain ⟨hv0, hv1⟩ := hv.out
  go_wp2_with fail
  go_region
  all_goals
    go_wp2_with fail
    go_ret2
    exact ⟨by first | rfl | (simp; done) | (simp; omega), by (unfold Tm Ct.cells at H1 ⊢; simp only [heap_drew, heap_set_map, putObj_cells, H1, Option.map_some, List.cons_append, List.nil_append, List.set_cons_succ, List.set_cons_zero, Bool.and_false, Bool.and_true, Bool.true_and, Bool.false_and, Bool.not_true, Bool.not_false, Bool.bne_true, Bool.bne_false]), by (repeat' (first | (with_reducible exact Keeps.refl _ _) | (with_reducible assumption) | (with_reducible refine Keeps.setOne ?_ _ _) | (with_reducible refine Keeps.alloc ?_ _) | (with_reducible refine Keeps.drew ?_)))⟩
set_option maxHeartbeats 1000000 in
theorem get0_ftf {w : World} {b : Nat} {c0 c1 c2 : Ct} {t : Int} (H : Tm w b c0 c1 c2) (ok : c0.ok t) (ht : t < 18446744073709551616) (e1 : c0.hd = false) (e2 : c0.up = true) (e3 : (c0.h == 3) = false) :
    Calls Try.prog 76 #[.pointer (some ⟨b, 0, none⟩), .int .i64 0, .int .u64 t] w fun e w' => e = .returned (.tuple #[.int .u8 ((c0.val t) / 256 % 256), .int .i64 0]) ∧ Tm w' b { c0 with hd := false, up := true } c1 c2 ∧ Keeps (· = b) w w' := by
  obtain ⟨k0, k1, k2, k3, k4, k5, k6, k7, k8, k9, kf, klt⟩ := H.f0
  rw [e1] at k8
  rw [e2] at k6
  have hv := Lib.hid ok.val
  go_enter Try.func76, Try.ntmps76
  go_wp2_with fail
  refine (now_ct0 H ok ht).mono ?_
  rintro e w1 ⟨rfl, hb⟩
  have H1 := H.below hb
  clear k0 k1 k2 k3 k4 k5 k6 k7 k8 k9 kf
  obtain ⟨k0, k1, k2, k3, k4, k5, k6, k7, k8, k9, kf, klt1⟩ := H1.f0
  rw [e1] at k8
  rw [e2] at k6
  have hK : Keeps (· = b) w w1 := Keeps.ofBelow hb
  obtain ⟨hv0, hv1⟩ := hv.out
  go_wp2_with fail
  go_region
  all_goals
    go_wp2_with fail
    go_ret2
    exact ⟨by first | rfl | (simp; done) | (simp; omega), by (unfold Tm Ct.cells at H1 ⊢; simp only [heap_drew, heap_set_map, putObj_cells, H1, Option.map_some, List.cons_append, List.nil_append, List.set_cons_succ, List.set_cons_zero, Bool.and_false, Bool.and_true, Bool.true_and, Bool.false_and, Bool.not_true, Bool.not_false, Bool.bne_true, Bool.bne_false]), by (repeat' (first | (with_reducible exact Keeps.refl _ _) | (with_reducible assumption) | (with_reducible refine Keeps.setOne ?_ _ _) | (with_reducible refine Keeps.alloc ?_ _) | (with_reducible refine Keeps.drew ?_)))⟩
set_option maxHeartbeats 1000000 in
theorem get0_fft {w : World} {b : Nat} {c0 c1 c2 : Ct} {t : Int} (H : Tm w b c0 c1 c2) (ok : c0.ok t) (ht : t < 18446744073709551616) (e1 : c0.hd = false) (e2 : c0.up = false) (e3 : (c0.h == 3) = true) :
    Calls Try.prog 76 #[.pointer (some ⟨b, 0, none⟩), .int .i64 0, .int .u64 t] w fun e w' => e = .returned (.tuple #[.int .u8 ((c0.val t) % 256), .int .i64 0]) ∧ Tm w' b { c0 with hd := false, up := true } c1 c2 ∧ Keeps (· = b) w w' := by
  obtain ⟨k0, k1, k2, k3, k4, k5, k6, k7, k8, k9, kf, klt⟩ := H.f0
  rw [e1] at k8
  rw [e2] at k6
  have hv := Lib.hid ok.val
  go_enter Try.func76, Try.ntmps76
  go_wp2_with fail
  refine (now_ct0 H ok ht).mono ?_
  rintro e w1 ⟨rfl, hb⟩
  have H1 := H.below hb
  clear k0 k1 k2 k3 k4 k5 k6 k7 k8 k9 kf
  obtain ⟨k0, k1, k2, k3, k4, k5, k6, k7, k8, k9, kf, klt1⟩ := H1.f0
  rw [e1] at k8
  rw [e2] at k6
  have hK : Keeps (· = b) w w1 := Keeps.ofBelow hb
  obtain ⟨hv0, hv1⟩ := hv.out
  go_wp2_with fail
  go_region
  all_goals
    go_wp2_with fail
    go_ret2
    exact ⟨by first | rfl | (simp; done) | (simp; omega), by (unfold Tm Ct.cells at H1 ⊢; simp only [heap_drew, heap_set_map, putObj_cells, H1, Option.map_some, List.cons_append, List.nil_append, List.set_cons_succ, List.set_cons_zero, Bool.and_false, Bool.and_true, Bool.true_and, Bool.false_and, Bool.not_true, Bool.not_false, Bool.bne_true, Bool.bne_false]), by (repeat' (first | (with_reducible exact Keeps.refl _ _) | (with_reducible assumption) | (with_reducible refine Keeps.setOne ?_ _ _) | (with_reducible refine Keeps.alloc ?_ _) | (with_reducible refine Keeps.drew ?_)))⟩
set_option maxHeartbeats 1000000 in
theorem get0_fff {w : World} {b : Nat} {c0 c1 c2 : Ct} {t : Int} (H : Tm w b c0 c1 c2) (ok : c0.ok t) (ht : t < 18446744073709551616) (e1 : c0.hd = false) (e2 : c0.up = false) (e3 : (c0.h == 3) = false) :
    Calls Try.prog 76 #[.pointer (some ⟨b, 0, none⟩), .int .i64 0, .int .u64 t] w fun e w' => e = .returned (.tuple #[.int .u8 ((c0.val t) % 256), .int .i64 0]) ∧ Tm w' b { c0 with hd := false, up := false } c1 c2 ∧ Keeps (· = b) w w' := by
  obtain ⟨k0, k1, k2, k3, k4, k5, k6, k7, k8, k9, kf, klt⟩ := H.f0
  rw [e1] at k8
  rw [e2] at k6
  have hv := Lib.hid ok.val
  go_enter Try.func76, Try.ntmps76
  go_wp2_with fail
  refine (now_ct0 H ok ht).mono ?_
  rintro e w1 ⟨rfl, hb⟩
  have H1 := H.below hb
  clear k0 k1 k2 k3 k4 k5 k6 k7 k8 k9 kf
  obtain ⟨k0, k1, k2, k3, k4, k5, k6, k7, k8, k9, kf, klt1⟩ := H1.f0
  rw [e1] at k8
  rw [e2] at k6
  have hK : Keeps (· = b) w w1 := Keeps.ofBelow hb
  obtain ⟨hv0, hv1⟩ := hv.out
  go_wp2_with fail
  go_region
  all_goals
    go_wp2_with fail
    go_ret2
    exact ⟨by first | rfl | (simp; done) | (simp; omega), by (unfold Tm Ct.cells at H1 ⊢; simp only [heap_drew, heap_set_map, putObj_cells, H1, Option.map_some, List.cons_append, List.nil_append, List.set_cons_succ, List.set_cons_zero, Bool.and_false, Bool.and_true, Bool.true_and, Bool.false_and, Bool.not_true, Bool.not_false, Bool.bne_true, Bool.bne_false]), by (repeat' (first | (with_reducible exact Keeps.refl _ _) | (with_reducible assumption) | (with_reducible refine Keeps.setOne ?_ _ _) | (with_reducible refine Keeps.alloc ?_ _) | (with_reducible refine Keeps.drew ?_)))⟩
set_option maxHeartbeats 1000000 in
theorem get_ct0 {w : World} {b : Nat} {c0 c1 c2 : Ct} {t : Int} (H : Tm w b c0 c1 c2) (ok : c0.ok t) (ht : t < 18446744073709551616) :
    Calls Try.prog 76 #[.pointer (some ⟨b, 0, none⟩), .int .i64 0, .int .u64 t] w fun e w' => e = .returned (.tuple #[.int .u8 (c0.getV t), .int .i64 0]) ∧ Tm w' b c0.getS c1 c2 ∧ Keeps (· = b) w w' := by
  unfold Ct.getV Ct.getS
  cases h1 : c0.hd <;> cases h2 : c0.up <;> cases h3 : (c0.h == 3)
  · exact get0_fff H ok ht h1 h2 h3
  · exact get0_fft H ok ht h1 h2 h3
  · exact get0_ftf H ok ht h1 h2 h3
  · exact get0_ftt H ok ht h1 h2 h3
  · exact get0_tff H ok ht h1 h2 h3
  · exact get0_tft H ok ht h1 h2 h3
  · exact get0_ttf H ok ht h1 h2 h3
  · exact get0_ttt H ok ht h1 h2 h3
set_option maxHeartbeats 1000000 in
theorem get1_ttt {w : World} {b : Nat} {c0 c1 c2 : Ct} {t : Int} (H : Tm w b c0 c1 c2) (ok : c1.ok t) (ht : t < 18446744073709551616) (e1 : c1.hd = true) (e2 : c1.up = true) (e3 : (c1.h == 3) = true) :
    Calls Try.prog 76 #[.pointer (some ⟨b, 0, none⟩), .int .i64 1, .int .u64 t] w fun e w' => e = .returned (.tuple #[.int .u8 (c1.v / 256 % 256), .int .i64 0]) ∧ Tm w' b c0 { c1 with hd := false, up := false } c2 ∧ Keeps (· = b) w w' := by
  obtain ⟨k0, k1, k2, k3, k4, k5, k6, k7, k8, k9, kf, klt⟩ := H.f1
  rw [e1] at k8
  rw [e2] at k6
  obtain ⟨hv0, hv1⟩ := ok.v
  go_enter Try.func76, Try.ntmps76
  go_wp2_with fail
  go_region
  all_goals
    go_wp2_with fail
    go_ret2
    exact ⟨by first | rfl | (simp; done) | (simp; omega), by (unfold Tm Ct.cells at H ⊢; simp only [heap_drew, heap_set_map, putObj_cells, H, Option.map_some, List.cons_append, List.nil_append, List.set_cons_succ, List.set_cons_zero, Bool.and_false, Bool.and_true, Bool.true_and, Bool.false_and, Bool.not_true, Bool.not_false, Bool.bne_true, Bool.bne_false]), by (repeat' (first | (with_reducible exact Keeps.refl _ _) | (with_reducible assumption) | (with_reducible refine Keeps.setOne ?_ _ _) | (with_reducible refine Keeps.alloc ?_ _) | (with_reducible refine Keeps.drew ?_)))⟩
set_option maxHeartbeats 1000000 in
theorem get1_ttf {w : World} {b : Nat} {c0 c1 c2 : Ct} {t : Int} (H : Tm w b c0 c1 c2) (ok : c1.ok t) (ht : t < 18446744073709551616) (e1 : c1.hd = true) (e2 : c1.up = true) (e3 : (c1.h == 3) = false) :
    Calls Try.prog 76 #[.pointer (some ⟨b, 0, none⟩), .int .i64 1, .int .u64 t] w fun e w' => e = .returned (.tuple #[.int .u8 (c1.v / 256 % 256), .int .i64 0]) ∧ Tm w' b c0 { c1 with hd := false, up := true } c2 ∧ Keeps (· = b) w w' := by
  obtain ⟨k0, k1, k2, k3, k4, k5, k6, k7, k8, k9, kf, klt⟩ := H.f1
  rw [e1] at k8
  rw [e2] at k6
  obtain ⟨hv0, hv1⟩ := ok.v
  go_enter Try.func76, Try.ntmps76
  go_wp2_with fail
  go_region
  all_goals
    go_wp2_with fail
    go_ret2
    exact ⟨by first | rfl | (simp; done) | (simp; omega), by (unfold Tm Ct.cells at H ⊢; simp only [heap_drew, heap_set_map, putObj_cells, H, Option.map_some, List.cons_append, List.nil_append, List.set_cons_succ, List.set_cons_zero, Bool.and_false, Bool.and_true, Bool.true_and, Bool.false_and, Bool.not_true, Bool.not_false, Bool.bne_true, Bool.bne_false]), by (repeat' (first | (with_reducible exact Keeps.refl _ _) | (with_reducible assumption) | (with_reducible refine Keeps.setOne ?_ _ _) | (with_reducible refine Keeps.alloc ?_ _) | (with_reducible refine Keeps.drew ?_)))⟩
set_option maxHeartbeats 1000000 in
theorem get1_tft {w : World} {b : Nat} {c0 c1 c2 : Ct} {t : Int} (H : Tm w b c0 c1 c2) (ok : c1.ok t) (ht : t < 18446744073709551616) (e1 : c1.hd = true) (e2 : c1.up = false) (e3 : (c1.h == 3) = true) :
    Calls Try.prog 76 #[.pointer (some ⟨b, 0, none⟩), .int .i64 1, .int .u64 t] w fun e w' => e = .returned (.tuple #[.int .u8 (c1.v % 256), .int .i64 0]) ∧ Tm w' b c0 { c1 with hd := true, up := true } c2 ∧ Keeps (· = b) w w' := by
  obtain ⟨k0, k1, k2, k3, k4, k5, k6, k7, k8, k9, kf, klt⟩ := H.f1
  rw [e1] at k8
  rw [e2] at k6
  obtain ⟨hv0, hv1⟩ := ok.v
  go_enter Try.func76, Try.ntmps76
  go_wp2_with fail
  go_region
  all_goals
    go_wp2_with fail
    go_ret2
    exact ⟨by first | rfl | (simp; done) | (simp; omega), by (unfold Tm Ct.cells at H ⊢; simp only [heap_drew, heap_set_map, putObj_cells, H, Option.map_some, List.cons_append, List.nil_append, List.set_cons_succ, List.set_cons_zero, Bool.and_false, Bool.and_true, Bool.true_and, Bool.false_and, Bool.not_true, Bool.not_false, Bool.bne_true, Bool.bne_false]), by (repeat' (first | (with_reducible exact Keeps.refl _ _) | (with_reducible assumption) | (with_reducible refine Keeps.setOne ?_ _ _) | (with_reducible refine Keeps.alloc ?_ _) | (with_reducible refine Keeps.drew ?_)))⟩
set_option maxHeartbeats 1000000 in
theorem get1_tff {w : World} {b : Nat} {c0 c1 c2 : Ct} {t : Int} (H : Tm w b c0 c1 c2) (ok : c1.ok t) (ht : t < 18446744073709551616) (e1 : c1.hd = true) (e2 : c1.up = false) (e3 : (c1.h == 3) = false) :
    Calls Try.prog 76 #[.pointer (some ⟨b, 0, none⟩), .int .i64 1, .int .u64 t] w fun e w' => e = .returned (.tuple #[.int .u8 (c1.v % 256), .int .i64 0]) ∧ Tm w' b c0 { c1 with hd := false, up := false } c2 ∧ Keeps (· = b) w w' := by
  obtain ⟨k0, k1, k2, k3, k4, k5, k6, k7, k8, k9, kf, klt⟩ := H.f1
  rw [e1] at k8
  rw [e2] at k6
  obtain ⟨hv0, hv1⟩ := ok.v
  go_enter Try.func76, Try.ntmps76
  go_wp2_with fail
  go_region
  all_goals
    go_wp2_with fail
    go_ret2
    exact ⟨by first | rfl | (simp; done) | (simp; omega), by (unfold Tm Ct.cells at H ⊢; simp only [heap_drew, heap_set_map, putObj_cells, H, Option.map_some, List.cons_append, List.nil_append, List.set_cons_succ, List.set_cons_zero, Bool.and_false, Bool.and_true, Bool.true_and, Bool.false_and, Bool.not_true, Bool.not_false, Bool.bne_true, Bool.bne_false]), by (repeat' (first | (with_reducible exact Keeps.refl _ _) | (with_reducible assumption) | (with_reducible refine Keeps.setOne ?_ _ _) | (with_reducible refine Keeps.alloc ?_ _) | (with_reducible refine Keeps.drew ?_)))⟩
set_option maxHeartbeats 1000000 in
theorem get1_ftt {w : World} {b : Nat} {c0 c1 c2 : Ct} {t : Int} (H : Tm w b c0 c1 c2) (ok : c1.ok t) (ht : t < 18446744073709551616) (e1 : c1.hd = false) (e2 : c1.up = true) (e3 : (c1.h == 3) = true) :
    Calls Try.prog 76 #[.pointer (some ⟨b, 0, none⟩), .int .i64 1, .int .u64 t] w fun e w' => e = .returned (.tuple #[.int .u8 ((c1.val t) / 256 % 256), .int .i64 0]) ∧ Tm w' b c0 { c1 with hd := false, up := false } c2 ∧ Keeps (· = b) w w' := by
  obtain ⟨k0, k1, k2, k3, k4, k5, k6, k7, k8, k9, kf, klt⟩ := H.f1
  rw [e1] at k8
  rw [e2] at k6
  have hv := Lib.hid ok.val
  go_enter Try.func76, Try.ntmps76
  go_wp2_with fail
  refine (now_ct1 H ok ht).mono ?_
  rintro e w1 ⟨rfl, hb⟩
  have H1 := H.below hb
  clear k0 k1 k2 k3 k4 k5 k6 k7 k8 k9 kf
  obtain ⟨k0, k1, k2, k3, k4, k5, k6, k7, k8, k9, kf, klt1⟩ := H1.f1
  rw [e1] at k8
  rw [e2] at k6
  have hK : Keeps (· = b) w w1 := Keeps.ofBelow hb
  obtain ⟨hv0, hv1⟩ := hv.out
  go_wp2_with fail
  go_region
  all_goals
    go_wp2_with fail
    go_ret2
    exact ⟨by first | rfl | (simp; done) | (simp; omega), by (unfold Tm Ct.cells at H1 ⊢; simp only [heap_drew, heap_set_map, putObj_cells, H1, Option.map_some, List.cons_append, List.nil_append, List.set_cons_succ, List.set_cons_zero, Bool.and_false, Bool.and_true, Bool.true_and, Bool.false_and, Bool.not_true, Bool.not_false, Bool.bne_true, Bool.bne_false]), by (repeat' (first | (with_reducible exact Keeps.refl _ _) | (with_reducible assumption) | (with_reducible refine Keeps.setOne ?_ _ _) | (with_reducible refine Keeps.alloc ?_ _) | (with_reducible refine Keeps.drew ?_)))⟩
set_option maxHeartbeats 1000000 in
theorem get1_ftf {w : World} {b : Nat} {c0 c1 c2 : Ct} {t : Int} (H : Tm w b c0 c1 c2) (ok : c1.ok t) (ht : t < 18446744073709551616) (e1 : c1.hd = false) (e2 : c1.up = true) (e3 : (c1.h == 3) = false) :
    Calls Try.prog 76 #[.pointer (some ⟨b, 0, none⟩), .int .i64 1, .int .u64 t] w fun e w' => e = .returned (.tuple #[.int .u8 ((c1.val t) / 256 % 256), .int .i64 0]) ∧ Tm w' b c0 { c1 with hd := false, up := true } c2 ∧ Keeps (· = b) w w' := by
  obtain ⟨k0, k1, k2, k3, k4, k5, k6, k7, k8, k9, kf, klt⟩ := H.f1
  rw [e1] at k8
  rw [e2] at k6
  have hv := Lib.hid ok.val
  go_enter Try.func76, Try.ntmps76
  go_wp2_with fail
  refine (now_ct1 H ok ht).mono ?_
  rintro e w1 ⟨rfl, hb⟩
  have H1 := H.below hb
  clear k0 k1 k2 k3 k4 k5 k6 k7 k8 k9 kf
  obtain ⟨k0, k1, k2, k3, k4, k5, k6, k7, k8, k9, kf, klt1⟩ := H1.f1
  rw [e1] at k8
  rw [e2] at k6
  have hK : Keeps (· = b) w w1 := Keeps.ofBelow hb
  obtain ⟨hv0, hv1⟩ := hv.out
  go_wp2_with fail
  go_region
  all_goals
    go_wp2_with fail
    go_ret2
    exact ⟨by first | rfl | (simp; done) | (simp; omega), by (unfold Tm Ct.cells at H1 ⊢; simp only [heap_drew, heap_set_map, putObj_cells, H1, Option.map_some, List.cons_append, List.nil_append, List.set_cons_succ, List.set_cons_zero, Bool.and_false, Bool.and_true, Bool.true_and, Bool.false_and, Bool.not_true, Bool.not_false, Bool.bne_true, Bool.bne_false]), by (repeat' (first | (with_reducible exact Keeps.refl _ _) | (with_reducible assumption) | (with_reducible refine Keeps.setOne ?_ _ _) | (with_reducible refine Keeps.alloc ?_ _) | (with_reducible refine Keeps.drew ?_)))⟩
set_option maxHeartbeats 1000000 in
theorem get1_fft {w : World} {b : Nat} {c0 c1 c2 : Ct} {t : Int} (H : Tm w b c0 c1 c2) (ok : c1.ok t) (ht : t < 18446744073709551616) (e1 : c1.hd = false) (e2 : c1.up = false) (e3 : (c1.h == 3) = true) :
    Calls Try.prog 76 #[.pointer (some ⟨b, 0, none⟩), .int .i64 1, .int .u64 t] w fun e w' => e = .returned (.tuple #[.int .u8 ((c1.val t) % 256), .int .i64 0]) ∧ Tm w' b c0 { c1 with hd := false, up := true } c2 ∧ Keeps (· = b) w w' := by
  obtain ⟨k0, k1, k2, k3, k4, k5, k6, k7, k8, k9, kf, klt⟩ := H.f1
  rw [e1] at k8
  rw [e2] at k6
  have hv := Lib.hid ok.val
  go_enter Try.func76, Try.ntmps76
  go_wp2_with fail
  refine (now_ct1 H ok ht).mono ?_
  rintro e w1 ⟨rfl, hb⟩
  have H1 := H.below hb
  clear k0 k1 k2 k3 k4 k5 k6 k7 k8 k9 kf
  obtain ⟨k0, k1, k2, k3, k4, k5, k6, k7, k8, k9, kf, klt1⟩ := H1.f1
  rw [e1] at k8
  rw [e2] at k6
  have hK : Keeps (· = b) w w1 := Keeps.ofBelow hb
  obtain ⟨hv0, hv1⟩ := hv.out
  go_wp2_with fail
  go_region
  all_goals
    go_wp2_with fail
    go_ret2
    exact ⟨by first | rfl | (simp; done) | (simp; omega), by (unfold Tm Ct.cells at H1 ⊢; simp only [heap_drew, heap_set_map, putObj_cells, H1, Option.map_some, List.cons_append, List.nil_append, List.set_cons_succ, List.set_cons_zero, Bool.and_false, Bool.and_true, Bool.true_and, Bool.false_and, Bool.not_true, Bool.not_false, Bool.bne_true, Bool.bne_false]), by (repeat' (first | (with_reducible exact Keeps.refl _ _) | (with_reducible assumption) | (with_reducible refine Keeps.setOne ?_ _ _) | (with_reducible refine Keeps.alloc ?_ _) | (with_reducible refine Keeps.drew ?_)))⟩
set_option maxHeartbeats 1000000 in
theorem get1_fff {w : World} {b : Nat} {c0 c1 c2 : Ct} {t : Int} (H : Tm w b c0 c1 c2) (ok : c1.ok t) (ht : t < 18446744073709551616) (e1 : c1.hd = false) (e2 : c1.up = false) (e3 : (c1.h == 3) = false) :
    Calls Try.prog 76 #[.pointer (some ⟨b, 0, none⟩), .int .i64 1, .int .u64 t] w fun e w' => e = .returned (.tuple #[.int .u8 ((c1.val t) % 256), .int .i64 0]) ∧ Tm w' b c0 { c1 with hd := false, up := false } c2 ∧ Keeps (· = b) w w' := by
  obtain ⟨k0, k1, k2, k3, k4, k5, k6, k7, k8, k9, kf, klt⟩ := H.f1
  rw [e1] at k8
  rw [e2] at k6
  have hv := Lib.hid ok.val
  go_enter Try.func76, Try.ntmps76
  go_wp2_with fail
  refine (now_ct1 H ok ht).mono ?_
  rintro e w1 ⟨rfl, hb⟩
  have H1 := H.below hb
  clear k0 k1 k2 k3 k4 k5 k6 k7 k8 k9 kf
  obtain ⟨k0, k1, k2, k3, k4, k5, k6, k7, k8, k9, kf, klt1⟩ := H1.f1
  rw [e1] at k8
  rw [e2] at k6
  have hK : Keeps (· = b) w w1 := Keeps.ofBelow hb
  obtain ⟨hv0, hv1⟩ := hv.out
  go_wp2_with fail
  go_region
  all_goals
    go_wp2_with fail
    go_ret2
    exact ⟨by first | rfl | (simp; done) | (simp; omega), by (unfold Tm Ct.cells at H1 ⊢; simp only [heap_drew, heap_set_map, putObj_cells, H1, Option.map_some, List.cons_append, List.nil_append, List.set_cons_succ, List.set_cons_zero, Bool.and_false, Bool.and_true, Bool.true_and, Bool.false_and, Bool.not_true, Bool.not_false, Bool.bne_true, Bool.bne_false]), by (repeat' (first | (with_reducible exact Keeps.refl _ _) | (with_reducible assumption) | (with_reducible refine Keeps.setOne ?_ _ _) | (with_reducible refine Keeps.alloc ?_ _) | (with_reducible refine Keeps.drew ?_)))⟩
set_option maxHeartbeats 1000000 in
theorem get_ct1 {w : World} {b : Nat} {c0 c1 c2 : Ct} {t : Int} (H : Tm w b c0 c1 c2) (ok : c1.ok t) (ht : t < 18446744073709551616) :
    Calls Try.prog 76 #[.pointer (some ⟨b, 0, none⟩), .int .i64 1, .int .u64 t] w fun e w' => e = .returned (.tuple #[.int .u8 (c1.getV t), .int .i64 0]) ∧ Tm w' b c0 c1.getS c2 ∧ Keeps (· = b) w w' := by
  unfold Ct.getV Ct.getS
  cases h1 : c1.hd <;> cases h2 : c1.up <;> cases h3 : (c1.h == 3)
  · exact get1_fff H ok ht h1 h2 h3
  · exact get1_fft H ok ht h1 h2 h3
  · exact get1_ftf H ok ht h1 h2 h3
  · exact get1_ftt H ok ht h1 h2 h3
  · exact get1_tff H ok ht h1 h2 h3
  · exact get1_tft H ok ht h1 h2 h3
  · exact get1_ttf H ok ht h1 h2 h3
  · exact get1_ttt H ok ht h1 h2 h3
set_option maxHeartbeats 1000000 in
theorem get2_ttt {w : World} {b : Nat} {c0 c1 c2 : Ct} {t : Int} (H : Tm w b c0 c1 c2) (ok : c2.ok t) (ht : t < 18446744073709551616) (e1 : c2.hd = true) (e2 : c2.up = true) (e3 : (c2.h == 3) = true) :
    Calls Try.prog 76 #[.pointer (some ⟨b, 0, none⟩), .int .i64 2, .int .u64 t] w fun e w' => e = .returned (.tuple #[.int .u8 (c2.v / 256 % 256), .int .i64 0]) ∧ Tm w' b c0 c1 { c2 with hd := false, up := false } ∧ Keeps (· = b) w w' := by
  obtain ⟨k0, k1, k2, k3, k4, k5, k6, k7, k8, k9, kf, klt⟩ := H.f2
  rw [e1] at k8
  rw [e2] at k6
  obtain ⟨hv0, hv1⟩ := ok.v
  go_enter Try.func76, Try.ntmps76
  go_wp2_with fail
  go_region
  all_goals
    go_wp2_with fail
    go_ret2
    exact ⟨by first | rfl | (simp; done) | (simp; omega), by (unfold Tm Ct.cells at H ⊢; simp only [heap_drew, heap_set_map, putObj_cells, H, Option.map_some, List.cons_append, List.nil_append, List.set_cons_succ, List.set_cons_zero, Bool.and_false, Bool.and_true, Bool.true_and, Bool.false_and, Bool.not_true, Bool.not_false, Bool.bne_true, Bool.bne_false]), by (repeat' (first | (with_reducible exact Keeps.refl _ _) | (with_reducible assumption) | (with_reducible refine Keeps.setOne ?_ _ _) | (with_reducible refine Keeps.alloc ?_ _) | (with_reducible refine Keeps.drew ?_)))⟩
set_option maxHeartbeats 1000000 in
theorem get2_ttf {w : World} {b : Nat} {c0 c1 c2 : Ct} {t : Int} (H : Tm w b c0 c1 c2) (ok : c2.ok t) (ht : t < 18446744073709551616) (e1 : c2.hd = true) (e2 : c2.up = true) (e3 : (c2.h == 3) = false) :
    Calls Try.prog 76 #[.pointer (some ⟨b, 0, none⟩), .int .i64 2, .int .u64 t] w fun e w' => e = .returned (.tuple #[.int .u8 (c2.v / 256 % 256), .int .i64 0]) ∧ Tm w' b c0 c1 { c2 with hd := false, up := true } ∧ Keeps (· = b) w w' := by
  obtain ⟨k0, k1, k2, k3, k4, k5, k6, k7, k8, k9, kf, klt⟩ := H.f2
  rw [e1] at k8
  rw [e2] at k6
  obtain ⟨hv0, hv1⟩ := ok.v
  go_enter Try.func76, Try.ntmps76
  go_wp2_with fail
  go_region
  all_goals
    go_wp2_with fail
    go_ret2
    exact ⟨by first | rfl | (simp; done) | (simp; omega), by (unfold Tm Ct.cells at H ⊢; simp only [heap_drew, heap_set_map, putObj_cells, H, Option.map_some, List.cons_append, List.nil_append, List.set_cons_succ, List.set_cons_zero, Bool.and_false, Bool.and_true, Bool.true_and, Bool.false_and, Bool.not_true, Bool.not_false, Bool.bne_true, Bool.bne_false]), by (repeat' (first | (with_reducible exact Keeps.refl _ _) | (with_reducible assumption) | (with_reducible refine Keeps.setOne ?_ _ _) | (with_reducible refine Keeps.alloc ?_ _) | (with_reducible refine Keeps.drew ?_)))⟩
set_option maxHeartbeats 1000000 in
theorem get2_tft {w : World} {b : Nat} {c0 c1 c2 : Ct} {t : Int} (H : Tm w b c0 c1 c2) (ok : c2.ok t) (ht : t < 18446744073709551616) (e1 : c2.hd = true) (e2 : c2.up = false) (e3 : (c2.h == 3) = true) :
    Calls Try.prog 76 #[.pointer (some ⟨b, 0, none⟩), .int .i64 2, .int .u64 t] w fun e w' => e = .returned (.tuple #[.int .u8 (c2.v % 256), .int .i64 0]) ∧ Tm w' b c0 c1 { c2 with hd := true, up := true } ∧ Keeps (· = b) w w' := by
  obtain ⟨k0, k1, k2, k3, k4, k5, k6, k7, k8, k9, kf, klt⟩ := H.f2
  rw [e1] at k8
  rw [e2] at k6
  obtain ⟨hv0, hv1⟩ := ok.v
  go_enter Try.func76, Try.ntmps76
  go_wp2_with fail
  go_region
  all_goals
    go_wp2_with fail
    go_ret2
    exact ⟨by first | rfl | (simp; done) | (simp; omega), by (unfold Tm Ct.cells at H ⊢; simp only [heap_drew, heap_set_map, putObj_cells, H, Option.map_some, List.cons_append, List.nil_append, List.set_cons_succ, List.set_cons_zero, Bool.and_false, Bool.and_true, Bool.true_and, Bool.false_and, Bool.not_true, Bool.not_false, Bool.bne_true, Bool.bne_false]), by (repeat' (first | (with_reducible exact Keeps.refl _ _) | (with_reducible assumption) | (with_reducible refine Keeps.setOne ?_ _ _) | (with_reducible refine Keeps.alloc ?_ _) | (with_reducible refine Keeps.drew ?_)))⟩
set_option maxHeartbeats 1000000 in
theorem get2_tff {w : World} {b : Nat} {c0 c1 c2 : Ct} {t : Int} (H : Tm w b c0 c1 c2) (ok : c2.ok t) (ht : t < 18446744073709551616) (e1 : c2.hd = true) (e2 : c2.up = false) (e3 : (c2.h == 3) = false) :
    Calls Try.prog 76 #[.pointer (some ⟨b, 0, none⟩), .int .i64 2, .int .u64 t] w fun e w' => e = .returned (.tuple #[.int .u8 (c2.v % 256), .int .i64 0]) ∧ Tm w' b c0 c1 { c2 with hd := false, up := false } ∧ Keeps (· = b) w w' := by
  obtain ⟨k0, k1, k2, k3, k4, k5, k6, k7, k8, k9, kf, klt⟩ := H.f2
  rw [e1] at k8
  rw [e2] at k6
  obtain ⟨hv0, hv1⟩ := ok.v
  go_enter Try.func76, Try.ntmps76
  go_wp2_with fail
  go_region
  all_goals
    go_wp2_with fail
    go_ret2
    exact ⟨by first | rfl | (simp; done) | (simp; omega), by (unfold Tm Ct.cells at H ⊢; simp only [heap_drew, heap_set_map, putObj_cells, H, Option.map_some, List.cons_append, List.nil_append, List.set_cons_succ, List.set_cons_zero, Bool.and_false, Bool.and_true, Bool.true_and, Bool.false_and, Bool.not_true, Bool.not_false, Bool.bne_true, Bool.bne_false]), by (repeat' (first | (with_reducible exact Keeps.refl _ _) | (with_reducible assumption) | (with_reducible refine Keeps.setOne ?_ _ _) | (with_reducible refine Keeps.alloc ?_ _) | (with_reducible refine Keeps.drew ?_)))⟩
set_option maxHeartbeats 1000000 in
theorem get2_ftt {w : World} {b : Nat} {c0 c1 c2 : Ct} {t : Int} (H : Tm w b c0 c1 c2) (ok : c2.ok t) (ht : t < 18446744073709551616) (e1 : c2.hd = false) (e2 : c2.up = true) (e3 : (c2.h == 3) = true) :
    Calls Try.prog 76 #[.pointer (some ⟨b, 0, none⟩), .int .i64 2, .int .u64 t] w fun e w' => e = .returned (.tuple #[.int .u8 ((c2.val t) / 256 % 256), .int .i64 0]) ∧ Tm w' b c0 c1 { c2 with hd := false, up := false } ∧ Keeps (· = b) w w' := by
  obtain ⟨k0, k1, k2, k3, k4, k5, k6, k7, k8, k9, kf, klt⟩ := H.f2
  rw [e1] at k8
  rw [e2] at k6
  have hv := Lib.hid ok.val
  go_enter Try.func76, Try.ntmps76
  go_wp2_with fail
  refine (now_ct2 H ok ht).mono ?_
  rintro e w1 ⟨rfl, hb⟩
  have H1 := H.below hb
  clear k0 k1 k2 k3 k4 k5 k6 k7 k8 k9 kf
  obtain ⟨k0, k1, k2, k3, k4, k5, k6, k7, k8, k9, kf, klt1⟩ := H1.f2
  rw [e1] at k8
  rw [e2] at k6
  have hK : Keeps (· = b) w w1 := Keeps.ofBelow hb
  obtain ⟨hv0, hv1⟩ := hv.out
  go_wp2_with fail
  go_region
  all_goals
    go_wp2_with fail
    go_ret2
    exact ⟨by first | rfl | (simp; done) | (simp; omega), by (unfold Tm Ct.cells at H1 ⊢; simp only [heap_drew, heap_set_map, putObj_cells, H1, Option.map_some, List.cons_append, List.nil_append, List.set_cons_succ, List.set_cons_zero, Bool.and_false, Bool.and_true, Bool.true_and, Bool.false_and, Bool.not_true, Bool.not_false, Bool.bne_true, Bool.bne_false]), by (repeat' (first | (with_reducible exact Keeps.refl _ _) | (with_reducible assumption) | (with_reducible refine Keeps.setOne ?_ _ _) | (with_reducible refine Keeps.alloc ?_ _) | (with_reducible refine Keeps.drew ?_)))⟩
set_option maxHeartbeats 1000000 in
theorem get2_ftf {w : World} {b : Nat} {c0 c1 c2 : Ct} {t : Int} (H : Tm w b c0 c1 c2) (ok : c2.ok t) (ht : t < 18446744073709551616) (e1 : c2.hd = false) (e2 : c2.up = true) (e3 : (c2.h == 3) = false) :
    Calls Try.prog 76 #[.pointer (some ⟨b, 0, none⟩), .int .i64 2, .int .u64 t] w fun e w' => e = .returned (.tuple #[.int .u8 ((c2.val t) / 256 % 256), .int .i64 0]) ∧ Tm w' b c0 c1 { c2 with hd := false, up := true } ∧ Keeps (· = b) w w' := by
  obtain ⟨k0, k1, k2, k3, k4, k5, k6, k7, k8, k9, kf, klt⟩ := H.f2
  rw [e1] at k8
  rw [e2] at k6
  have hv := Lib.hid ok.val
  go_enter Try.func76, Try.ntmps76
  go_wp2_with fail
  refine (now_ct2 H ok ht).mono ?_
  rintro e w1 ⟨rfl, hb⟩
  have H1 := H.below hb
  clear k0 k1 k2 k3 k4 k5 k6 k7 k8 k9 kf
  obtain ⟨k0, k1, k2, k3, k4, k5, k6, k7, k8, k9, kf, klt1⟩ := H1.f2
  rw [e1] at k8
  rw [e2] at k6
  have hK : Keeps (· = b) w w1 := Keeps.ofBelow hb
  obtain ⟨hv0, hv1⟩ := hv.out
  go_wp2_with fail
  go_region
  all_goals
    go_wp2_with fail
    go_ret2
    exact ⟨by first | rfl | (simp; done) | (simp; omega), by (unfold Tm Ct.cells at H1 ⊢; simp only [heap_drew, heap_set_map, putObj_cells, H1, Option.map_some, List.cons_append, List.nil_append, List.set_cons_succ, List.set_cons_zero, Bool.and_false, Bool.and_true, Bool.true_and, Bool.false_and, Bool.not_true, Bool.not_false, Bool.bne_true, Bool.bne_false]), by (repeat' (first | (with_reducible exact Keeps.refl _ _) | (with_reducible assumption) | (with_reducible refine Keeps.setOne ?_ _ _) | (with_reducible refine Keeps.alloc ?_ _) | (with_reducible refine Keeps.drew ?_)))⟩
set_option maxHeartbeats 1000000 in
theorem get2_fft {w : World} {b : Nat} {c0 c1 c2 : Ct} {t : Int} (H : Tm w b c0 c1 c2) (ok : c2.ok t) (ht : t < 18446744073709551616) (e1 : c2.hd = false) (e2 : c2.up = false) (e3 : (c2.h == 3) = true) :
    Calls Try.prog 76 #[.pointer (some ⟨b, 0, none⟩), .int .i64 2, .int .u64 t] w fun e w' => e = .returned (.tuple #[.int .u8 ((c2.val t) % 256), .int .i64 0]) ∧ Tm w' b c0 c1 { c2 with hd := false, up := true } ∧ Keeps (· = b) w w' := by
  obtain ⟨k0, k1, k2, k3, k4, k5, k6, k7, k8, k9, kf, klt⟩ := H.f2
  rw [e1] at k8
  rw [e2] at k6
  have hv := Lib.hid ok.val
  go_enter Try.func76, Try.ntmps76
  go_wp2_with fail
  refine (now_ct2 H ok ht).mono ?_
  rintro e w1 ⟨rfl, hb⟩
  have H1 := H.below hb
  clear k0 k1 k2 k3 k4 k5 k6 k7 k8 k9 kf
  obtain ⟨k0, k1, k2, k3, k4, k5, k6, k7, k8, k9, kf, klt1⟩ := H1.f2
  rw [e1] at k8
  rw [e2] at k6
  have hK : Keeps (· = b) w w1 := Keeps.ofBelow hb
  obtain ⟨hv0, hv1⟩ := hv.out
  go_wp2_with fail
  go_region
  all_goals
    go_wp2_with fail
    go_ret2
    exact ⟨by first | rfl | (simp; done) | (simp; omega), by (unfold Tm Ct.cells at H1 ⊢; simp only [heap_drew, heap_set_map, putObj_cells, H1, Option.map_some, List.cons_append, List.nil_append, List.set_cons_succ, List.set_cons_zero, Bool.and_false, Bool.and_true, Bool.true_and, Bool.false_and, Bool.not_true, Bool.not_false, Bool.bne_true, Bool.bne_false]), by (repeat' (first | (with_reducible exact Keeps.refl _ _) | (with_reducible assumption) | (with_reducible refine Keeps.setOne ?_ _ _) | (with_reducible refine Keeps.alloc ?_ _) | (with_reducible refine Keeps.drew ?_)))⟩
set_option maxHeartbeats 1000000 in
theorem get2_fff {w : World} {b : Nat} {c0 c1 c2 : Ct} {t : Int} (H : Tm w b c0 c1 c2) (ok : c2.ok t) (ht : t < 18446744073709551616) (e1 : c2.hd = false) (e2 : c2.up = false) (e3 : (c2.h == 3) = false) :
    Calls Try.prog 76 #[.pointer (some ⟨b, 0, none⟩), .int .i64 2, .int .u64 t] w fun e w' => e = .returned (.tuple #[.int .u8 ((c2.val t) % 256), .int .i64 0]) ∧ Tm w' b c0 c1 { c2 with hd := false, up := false } ∧ Keeps (· = b) w w' := by
  obtain ⟨k0, k1, k2, k3, k4, k5, k6, k7, k8, k9, kf, klt⟩ := H.f2
  rw [e1] at k8
  rw [e2] at k6
  have hv := Lib.hid ok.val
  go_enter Try.func76, Try.ntmps76
  go_wp2_with fail
  refine (now_ct2 H ok ht).mono ?_
  rintro e w1 ⟨rfl, hb⟩
  have H1 := H.below hb
  clear k0 k1 k2 k3 k4 k5 k6 k7 k8 k9 kf
  obtain ⟨k0, k1, k2, k3, k4, k5, k6, k7, k8, k9, kf, klt1⟩ := H1.f2
  rw [e1] at k8
  rw [e2] at k6
  have hK : Keeps (· = b) w w1 := Keeps.ofBelow hb
  obtain ⟨hv0, hv1⟩ := hv.out
  go_wp2_with fail
  go_region
  all_goals
    go_wp2_with fail
    go_ret2
    exact ⟨by first | rfl | (simp; done) | (simp; omega), by (unfold Tm Ct.cells at H1 ⊢; simp only [heap_drew, heap_set_map, putObj_cells, H1, Option.map_some, List.cons_append, List.nil_append, List.set_cons_succ, List.set_cons_zero, Bool.and_false, Bool.and_true, Bool.true_and, Bool.false_and, Bool.not_true, Bool.not_false, Bool.bne_true, Bool.bne_false]), by (repeat' (first | (with_reducible exact Keeps.refl _ _) | (with_reducible assumption) | (with_reducible refine Keeps.setOne ?_ _ _) | (with_reducible refine Keeps.alloc ?_ _) | (with_reducible refine Keeps.drew ?_)))⟩
set_option maxHeartbeats 1000000 in
theorem get_ct2 {w : World} {b : Nat} {c0 c1 c2 : Ct} {t : Int} (H : Tm w b c0 c1 c2) (ok : c2.ok t) (ht : t < 18446744073709551616) :
    Calls Try.prog 76 #[.pointer (some ⟨b, 0, none⟩), .int .i64 2, .int .u64 t] w fun e w' => e = .returned (.tuple #[.int .u8 (c2.getV t), .int .i64 0]) ∧ Tm w' b c0 c1 c2.getS ∧ Keeps (· = b) w w' := by
  unfold Ct.getV Ct.getS
  cases h1 : c2.hd <;> cases h2 : c2.up <;> cases h3 : (c2.h == 3)
  · exact get2_fff H ok ht h1 h2 h3
  · exact get2_fft H ok ht h1 h2 h3
  · exact get2_ftf H ok ht h1 h2 h3
  · exact get2_ftt H ok ht h1 h2 h3
  · exact get2_tff H ok ht h1 h2 h3
  · exact get2_tft H ok ht h1 h2 h3
  · exact get2_ttf H ok ht h1 h2 h3
  · exact get2_ttt H ok ht h1 h2 h3
set_option maxHeartbeats 1000000 in
theorem get_3 {w : World} {b : Nat} {c0 c1 c2 : Ct} {t : Int} (H : Tm w b c0 c1 c2)  :
    Calls Try.prog 76 #[.pointer (some ⟨b, 0, none⟩), .int .i64 3, .int .u64 t] w fun e w' => e = .returned (.tuple #[.int .u8 255, .int .i64 0]) ∧ Tm w' b c0 c1 c2 ∧ Keeps (· = b) w w' := by
  go_enter Try.func76, Try.ntmps76
  go_wp2_with fail
  go_ret2
  exact ⟨rfl, H, Keeps.refl _ _⟩
def ctNew : Ct := ⟨3, 3, false, 65536, 0, false, false, 0, false, 0⟩
theorem ctNew_ok (t : Int) (h : 0 ≤ t) : ctNew.ok t := ⟨by decide, by decide, by decide, ⟨by decide, h⟩, by decide, by decide⟩
set_option maxHeartbeats 1000000 in
theorem tm_new (w : World) : Calls Try.prog 36 #[] w fun e w' => e = .returned (.pointer (some ⟨w.heap.size, 0, none⟩)) ∧ Tm w' w.heap.size ctNew ctNew ctNew ∧ Below w.heap.size w w' := by
  go_enter Try.func36, Try.ntmps36
  go_wp2
  go_rounds 4
  go_ret
  exact ⟨rfl, heap_new w _, by go_grown⟩
end Go.Proofs.Ytojmpdddfnkffaa.Pit

