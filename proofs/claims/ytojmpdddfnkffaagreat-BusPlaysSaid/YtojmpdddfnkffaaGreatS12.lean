/- Steps of a proof: BusW, BusX, together. -/
import Derived.Test.YtojmpdddfnkffaaGreatS11
/- bus: the document's timer, whole. -/
set_option maxHeartbeats 4000000
set_option maxRecDepth 20000
namespace Go.Proofs.YtojmpdddfnkffaaGreat
open Go.RowKit
set_option linter.unusedVariables false
set_option linter.unusedSimpArgs false

theorem rval_st (m h l g f v t : Int) (st wn up hd : Bool) (l0 : 1 ≤ l) (l1 : l ≤ 65536) (g0 : 0 ≤ g) (g1 : g ≤ t) (ht : t < 18446744073709551616)  (w : World) :
    Calls Tryz.prog 143 #[.agg #[.int .i64 m, .int .i64 h, .int .u64 l, .int .u64 g,  .bool true, .bool wn, .int .u8 f, .bool up, .bool hd, .int .u64 v], .int .u64 t] w fun e w' => e = .returned (.int .u64 (l % 65536)) ∧ Below w.heap.size w w' := by
 have hsub : IntKind.u64.wrap (t - g) = t - g := IntWalk.u64_in _ (by omega)
 have hs0 : 0 ≤ t - g := by omega
 go_enter Tryz.func143, Tryz.ntmps143
 go_wp2_with fail
 go_ret
 exact ⟨by first | rfl | (refine congrArg (fun x : Int => Ending.returned (Value.int .u64 x)) (?_ : _ = _); omega), by first | exact Pic.below_drewN ((Below.refl _ _).alloc (Nat.le_refl _) _) _ | go_grown⟩
theorem rval_0 (m h l g f v t : Int) (st wn up hd : Bool) (l0 : 1 ≤ l) (l1 : l ≤ 65536) (g0 : 0 ≤ g) (g1 : g ≤ t) (ht : t < 18446744073709551616)  (w : World) :
    Calls Tryz.prog 143 #[.agg #[.int .i64 0, .int .i64 h, .int .u64 l, .int .u64 g,  .bool false, .bool wn, .int .u8 f, .bool up, .bool hd, .int .u64 v], .int .u64 t] w fun e w' => e = .returned (.int .u64 ((l - (t - g)) % 65536)) ∧ Below w.heap.size w w' := by
 have hsub : IntKind.u64.wrap (t - g) = t - g := IntWalk.u64_in _ (by omega)
 have hs0 : 0 ≤ t - g := by omega
 go_enter Tryz.func143, Tryz.ntmps143
 go_wp2_with fail
 go_ret
 exact ⟨by first | rfl | (refine congrArg (fun x : Int => Ending.returned (Value.int .u64 x)) (?_ : _ = _); omega), by first | exact Pic.below_drewN ((Below.refl _ _).alloc (Nat.le_refl _) _) _ | go_grown⟩
theorem rval_2 (m h l g f v t : Int) (st wn up hd : Bool) (l0 : 1 ≤ l) (l1 : l ≤ 65536) (g0 : 0 ≤ g) (g1 : g ≤ t) (ht : t < 18446744073709551616)  (w : World) :
    Calls Tryz.prog 143 #[.agg #[.int .i64 2, .int .i64 h, .int .u64 l, .int .u64 g,  .bool false, .bool wn, .int .u8 f, .bool up, .bool hd, .int .u64 v], .int .u64 t] w fun e w' => e = .returned (.int .u64 ((l - (t - g) % l) % 65536)) ∧ Below w.heap.size w w' := by
 have hsub : IntKind.u64.wrap (t - g) = t - g := IntWalk.u64_in _ (by omega)
 have hs0 : 0 ≤ t - g := by omega
 have hr0 : 0 ≤ (t - g) % l := Int.emod_nonneg _ (by omega)
 have hr1 : (t - g) % l < l := Int.emod_lt_of_pos _ (by omega)
 go_enter Tryz.func143, Tryz.ntmps143
 go_wp2_with fail
 go_quiet (fail)
 go_wp2_with fail
 go_ret
 exact ⟨by first | rfl | (refine congrArg (fun x : Int => Ending.returned (Value.int .u64 x)) (?_ : _ = _); omega), by first | exact Pic.below_drewN ((Below.refl _ _).alloc (Nat.le_refl _) _) _ | go_grown⟩
theorem rval_3 (m h l g f v t : Int) (st wn up hd : Bool) (l0 : 1 ≤ l) (l1 : l ≤ 65536) (g0 : 0 ≤ g) (g1 : g ≤ t) (ht : t < 18446744073709551616)  (w : World) :
    Calls Tryz.prog 143 #[.agg #[.int .i64 3, .int .i64 h, .int .u64 l, .int .u64 g,  .bool false, .bool wn, .int .u8 f, .bool up, .bool hd, .int .u64 v], .int .u64 t] w fun e w' => e = .returned (.int .u64 ((l - (t - g) % l) % 65536)) ∧ Below w.heap.size w w' := by
 have hsub : IntKind.u64.wrap (t - g) = t - g := IntWalk.u64_in _ (by omega)
 have hs0 : 0 ≤ t - g := by omega
 have hr0 : 0 ≤ (t - g) % l := Int.emod_nonneg _ (by omega)
 have hr1 : (t - g) % l < l := Int.emod_lt_of_pos _ (by omega)
 go_enter Tryz.func143, Tryz.ntmps143
 go_wp2_with fail
 go_quiet (fail)
 go_wp2_with fail
 go_ret
 exact ⟨by first | rfl | (refine congrArg (fun x : Int => Ending.returned (Value.int .u64 x)) (?_ : _ = _); omega), by first | exact Pic.below_drewN ((Below.refl _ _).alloc (Nat.le_refl _) _) _ | go_grown⟩
theorem rval_x (m h l g f v t : Int) (st wn up hd : Bool) (l0 : 1 ≤ l) (l1 : l ≤ 65536) (g0 : 0 ≤ g) (g1 : g ≤ t) (ht : t < 18446744073709551616) (h0 : (m == 0) = false) (h2 : (m == 2) = false) (h3 : (m == 3) = false) (w : World) :
    Calls Tryz.prog 143 #[.agg #[.int .i64 m, .int .i64 h, .int .u64 l, .int .u64 g,  .bool false, .bool wn, .int .u8 f, .bool up, .bool hd, .int .u64 v], .int .u64 t] w fun e w' => e = .returned (.int .u64 (l % 65536)) ∧ Below w.heap.size w w' := by
 have hsub : IntKind.u64.wrap (t - g) = t - g := IntWalk.u64_in _ (by omega)
 have hs0 : 0 ≤ t - g := by omega
 go_enter Tryz.func143, Tryz.ntmps143
 go_wp2_with fail
 go_ret
 exact ⟨by first | rfl | (refine congrArg (fun x : Int => Ending.returned (Value.int .u64 x)) (?_ : _ = _); omega), by first | exact Pic.below_drewN ((Below.refl _ _).alloc (Nat.le_refl _) _) _ | go_grown⟩
theorem rval_any {c : Pit.Ct} {t : Int} (ok : c.ok t) (ht : t < 18446744073709551616) (w : World) :
    Calls Tryz.prog 143 #[.agg (rct c).toArray, .int .u64 t] w fun e w' => e = .returned (.int .u64 (c.val t)) ∧ Below w.heap.size w w' := by
 obtain ⟨m, h, st, l, g, wn, up, f, hd, v⟩ := c
 have hl := ok.l
 have hg := ok.g
 unfold Pit.Ct.val Pit.nowv
 cases st
 ·rw [if_neg (show ¬ (false = true) by decide)]
  by_cases h0 : m = 0
  ·subst h0; rw [if_pos rfl]; exact rval_0 0 h l g f v t false wn up hd hl.1 hl.2 hg.1 hg.2 ht w
  ·rw [if_neg h0]
   by_cases h2 : m = 2
   ·subst h2; rw [if_pos (.inl rfl)]; exact rval_2 2 h l g f v t false wn up hd hl.1 hl.2 hg.1 hg.2 ht w
   ·by_cases h3 : m = 3
    ·subst h3; rw [if_pos (.inr rfl)]; exact rval_3 3 h l g f v t false wn up hd hl.1 hl.2 hg.1 hg.2 ht w
    ·rw [if_neg (fun h => h.elim h2 h3)]; exact rval_x m h l g f v t false wn up hd hl.1 hl.2 hg.1 hg.2 ht (by simpa using h0) (by simpa using h2) (by simpa using h3) w
 ·rw [if_pos rfl]; exact rval_st m h l g f v t true wn up hd hl.1 hl.2 hg.1 hg.2 ht w
def RT (w : World) (b : Nat) (c0 c1 c2 : Pit.Ct) : Prop := w.heap[b]? = some (.cells (rct c0 ++ rct c1 ++ rct c2).toArray 147)
theorem RT.below {w w1 : World} {b : Nat} {c0 c1 c2 : Pit.Ct} (H : RT w b c0 c1 c2) (hb : Below w.heap.size w w1) : RT w1 b c0 c1 c2 := heap_below hb H
theorem RT.f0 {w : World} {b : Nat} {c0 c1 c2 : Pit.Ct} (H : RT w b c0 c1 c2) :
    w.cell? ⟨b, 0, none⟩ = some (.int .i64 c0.m) ∧ w.cell? ⟨b, 1, none⟩ = some (.int .i64 c0.h) ∧ w.cell? ⟨b, 2, none⟩ = some (.int .u64 c0.l) ∧ w.cell? ⟨b, 3, none⟩ = some (.int .u64 c0.g) ∧ w.cell? ⟨b, 4, none⟩ = some (.bool c0.st) ∧ w.cell? ⟨b, 5, none⟩ = some (.bool c0.wn) ∧ w.cell? ⟨b, 6, none⟩ = some (.int .u8 c0.f) ∧ w.cell? ⟨b, 7, none⟩ = some (.bool c0.up) ∧ w.cell? ⟨b, 8, none⟩ = some (.bool c0.hd) ∧ w.cell? ⟨b, 9, none⟩ = some (.int .u64 c0.v) ∧
    (∀ k, w.frozen? ⟨b, k, none⟩ = false) ∧ b < w.heap.size := by
 unfold RT at H
 refine ⟨?_, ?_, ?_, ?_, ?_, ?_, ?_, ?_, ?_, ?_, fun k => free_at H, heap_lt H⟩ <;> (rw [cell_at H]; rfl)
theorem RT.f1 {w : World} {b : Nat} {c0 c1 c2 : Pit.Ct} (H : RT w b c0 c1 c2) :
    w.cell? ⟨b, 10, none⟩ = some (.int .i64 c1.m) ∧ w.cell? ⟨b, 11, none⟩ = some (.int .i64 c1.h) ∧ w.cell? ⟨b, 12, none⟩ = some (.int .u64 c1.l) ∧ w.cell? ⟨b, 13, none⟩ = some (.int .u64 c1.g) ∧ w.cell? ⟨b, 14, none⟩ = some (.bool c1.st) ∧ w.cell? ⟨b, 15, none⟩ = some (.bool c1.wn) ∧ w.cell? ⟨b, 16, none⟩ = some (.int .u8 c1.f) ∧ w.cell? ⟨b, 17, none⟩ = some (.bool c1.up) ∧ w.cell? ⟨b, 18, none⟩ = some (.bool c1.hd) ∧ w.cell? ⟨b, 19, none⟩ = some (.int .u64 c1.v) ∧
    (∀ k, w.frozen? ⟨b, k, none⟩ = false) ∧ b < w.heap.size := by
 unfold RT at H
 refine ⟨?_, ?_, ?_, ?_, ?_, ?_, ?_, ?_, ?_, ?_, fun k => free_at H, heap_lt H⟩ <;> (rw [cell_at H]; rfl)
theorem RT.f2 {w : World} {b : Nat} {c0 c1 c2 : Pit.Ct} (H : RT w b c0 c1 c2) :
    w.cell? ⟨b, 20, none⟩ = some (.int .i64 c2.m) ∧ w.cell? ⟨b, 21, none⟩ = some (.int .i64 c2.h) ∧ w.cell? ⟨b, 22, none⟩ = some (.int .u64 c2.l) ∧ w.cell? ⟨b, 23, none⟩ = some (.int .u64 c2.g) ∧ w.cell? ⟨b, 24, none⟩ = some (.bool c2.st) ∧ w.cell? ⟨b, 25, none⟩ = some (.bool c2.wn) ∧ w.cell? ⟨b, 26, none⟩ = some (.int .u8 c2.f) ∧ w.cell? ⟨b, 27, none⟩ = some (.bool c2.up) ∧ w.cell? ⟨b, 28, none⟩ = some (.bool c2.hd) ∧ w.cell? ⟨b, 29, none⟩ = some (.int .u64 c2.v) ∧
    (∀ k, w.frozen? ⟨b, k, none⟩ = false) ∧ b < w.heap.size := by
 unfold RT at H
 refine ⟨?_, ?_, ?_, ?_, ?_, ?_, ?_, ?_, ?_, ?_, fun k => free_at H, heap_lt H⟩ <;> (rw [cell_at H]; rfl)
theorem RT.alloc {w : World} {b : Nat} {c0 c1 c2 : Pit.Ct} (H : RT w b c0 c1 c2) (x : Obj) : RT (w.alloc x) b c0 c1 c2 := heap_alloc_lt H
theorem RT.drew {w : World} {b : Nat} {c0 c1 c2 : Pit.Ct} (H : RT w b c0 c1 c2) : RT w.drew b c0 c1 c2 := H
theorem RT.drewN {w : World} {b : Nat} {c0 c1 c2 : Pit.Ct} (H : RT w b c0 c1 c2) (n : Nat) : RT (w.drewN n) b c0 c1 c2 := H
theorem rcmd0_hi {w : World} {b : Nat} {c0 c1 c2 : Pit.Ct} {t : Int} (H : RT w b c0 c1 c2) (x hh mm : Int) (x0 : 0 ≤ x) (x1 : x < 256) (e0 : x / 64 = 0) (e1 : x / 16 % 4 = hh) (e2 : x / 2 % 8 = mm) (e3 : (hh == 0) = false) (hm : 5 < mm) (hm2 : 0 ≤ mm ∧ mm ≤ 7) :
    Calls Tryz.prog 141 #[.pointer (some ⟨b, 0, none⟩), .int .u8 x, .int .u64 t] w fun e w' => e = .returned (.tuple #[]) ∧ RT w' b { c0 with h := hh, hd := false, wn := false, up := (hh == 2), st := true, m := mm - 4 } c1 c2 ∧ Keeps (· = b) w w' := by
 obtain ⟨k0, k1, k2, k3, k4, k5, k6, k7, k8, k9, kf, klt⟩ := H.f0
 go_enter Tryz.func141, Tryz.ntmps141
 go_wp2_with fail
 all_goals
  go_region
 all_goals
  go_wp2_with fail
  go_returns
  exact ⟨rfl, by ((repeat' (first | (with_reducible refine RT.alloc ?_ _) | (with_reducible refine RT.drew ?_) | (with_reducible refine RT.drewN ?_ _))); unfold RT rct at H ⊢; simp only [heap_drew, heap_set_map, putObj_cells, H, Option.map_some, List.cons_append, List.nil_append, List.set_cons_succ, List.set_cons_zero, Bool.and_false, Bool.and_true, Bool.true_and, Bool.false_and, Bool.not_true, Bool.not_false, Bool.bne_true, Bool.bne_false]), by (repeat' (first | (with_reducible exact Keeps.refl _ _) | (with_reducible assumption) | (with_reducible refine Keeps.setOne ?_ _ _) | (with_reducible refine Keeps.alloc ?_ _) | (with_reducible refine Keeps.drew ?_) | (with_reducible refine Keeps.drewN ?_ _) | (refine Keeps.setCell ?_ (.inr (by simp)) _)))⟩
theorem rcmd0_lo {w : World} {b : Nat} {c0 c1 c2 : Pit.Ct} {t : Int} (H : RT w b c0 c1 c2) (x hh mm : Int) (x0 : 0 ≤ x) (x1 : x < 256) (e0 : x / 64 = 0) (e1 : x / 16 % 4 = hh) (e2 : x / 2 % 8 = mm) (e3 : (hh == 0) = false) (hm : mm ≤ 5) (hm2 : 0 ≤ mm ∧ mm ≤ 7) :
    Calls Tryz.prog 141 #[.pointer (some ⟨b, 0, none⟩), .int .u8 x, .int .u64 t] w fun e w' => e = .returned (.tuple #[]) ∧ RT w' b { c0 with h := hh, hd := false, wn := false, up := (hh == 2), st := true, m := mm } c1 c2 ∧ Keeps (· = b) w w' := by
 obtain ⟨k0, k1, k2, k3, k4, k5, k6, k7, k8, k9, kf, klt⟩ := H.f0
 go_enter Tryz.func141, Tryz.ntmps141
 go_wp2_with fail
 all_goals
  go_region
 all_goals
  go_wp2_with fail
  go_returns
  exact ⟨rfl, by ((repeat' (first | (with_reducible refine RT.alloc ?_ _) | (with_reducible refine RT.drew ?_) | (with_reducible refine RT.drewN ?_ _))); unfold RT rct at H ⊢; simp only [heap_drew, heap_set_map, putObj_cells, H, Option.map_some, List.cons_append, List.nil_append, List.set_cons_succ, List.set_cons_zero, Bool.and_false, Bool.and_true, Bool.true_and, Bool.false_and, Bool.not_true, Bool.not_false, Bool.bne_true, Bool.bne_false]), by (repeat' (first | (with_reducible exact Keeps.refl _ _) | (with_reducible assumption) | (with_reducible refine Keeps.setOne ?_ _ _) | (with_reducible refine Keeps.alloc ?_ _) | (with_reducible refine Keeps.drew ?_) | (with_reducible refine Keeps.drewN ?_ _) | (refine Keeps.setCell ?_ (.inr (by simp)) _)))⟩
theorem rcmd0_held {w : World} {b : Nat} {c0 c1 c2 : Pit.Ct} {t : Int} (H : RT w b c0 c1 c2) (x : Int) (x0 : 0 ≤ x) (x1 : x < 256) (e0 : x / 64 = 0) (e1 : x / 16 % 4 = 0) (e4 : c0.hd = true) :
    Calls Tryz.prog 141 #[.pointer (some ⟨b, 0, none⟩), .int .u8 x, .int .u64 t] w fun e w' => e = .returned (.tuple #[]) ∧ RT w' b { c0 with hd := true } c1 c2 ∧ Keeps (· = b) w w' := by
 obtain ⟨k0, k1, k2, k3, k4, k5, k6, k7, k8, k9, kf, klt⟩ := H.f0
 rw [e4] at k8
 go_enter Tryz.func141, Tryz.ntmps141
 go_wp2_with fail
 all_goals
  go_region
 all_goals
  go_wp2_with fail
  go_returns
  exact ⟨rfl, by ((repeat' (first | (with_reducible refine RT.alloc ?_ _) | (with_reducible refine RT.drew ?_) | (with_reducible refine RT.drewN ?_ _))); unfold RT rct at H ⊢; simp only [heap_drew, heap_set_map, putObj_cells, H, Option.map_some, List.cons_append, List.nil_append, List.set_cons_succ, List.set_cons_zero, Bool.and_false, Bool.and_true, Bool.true_and, Bool.false_and, Bool.not_true, Bool.not_false, Bool.bne_true, Bool.bne_false]), by (repeat' (first | (with_reducible exact Keeps.refl _ _) | (with_reducible assumption) | (with_reducible refine Keeps.setOne ?_ _ _) | (with_reducible refine Keeps.alloc ?_ _) | (with_reducible refine Keeps.drew ?_) | (with_reducible refine Keeps.drewN ?_ _) | (refine Keeps.setCell ?_ (.inr (by simp)) _)))⟩
theorem rcmd0_free {w : World} {b : Nat} {c0 c1 c2 : Pit.Ct} {t : Int} (H : RT w b c0 c1 c2) (ok : c0.ok t) (ht : t < 18446744073709551616) (x : Int) (x0 : 0 ≤ x) (x1 : x < 256) (e0 : x / 64 = 0) (e1 : x / 16 % 4 = 0) (e4 : c0.hd = false) :
    Calls Tryz.prog 141 #[.pointer (some ⟨b, 0, none⟩), .int .u8 x, .int .u64 t] w fun e w' => e = .returned (.tuple #[]) ∧ RT w' b { c0 with v := c0.val t, hd := true } c1 c2 ∧ Keeps (· = b) w w' := by
 have HRV0 : ∀ w : World, Calls Tryz.prog 143 #[.agg #[.int .i64 c0.m, .int .i64 c0.h, .int .u64 c0.l, .int .u64 c0.g, .bool c0.st, .bool c0.wn, .int .u8 c0.f, .bool c0.up, .bool c0.hd, .int .u64 c0.v], .int .u64 t] w fun e w' => e = .returned (.int .u64 (c0.val t)) ∧ Below w.heap.size w w' := fun w => rval_any ok ht w
 rw [e4] at HRV0
 have HRV := Lib.hid HRV0
 clear HRV0
 obtain ⟨k0, k1, k2, k3, k4, k5, k6, k7, k8, k9, kf, klt⟩ := H.f0
 rw [e4] at k8
 clear ok ht
 go_enter Tryz.func141, Tryz.ntmps141
 go_wp2_with fail
 refine (HRV.out _).mono ?_
 rintro e w1 ⟨rfl, hb⟩
 have H1 : RT w1 b c0 c1 c2 := (H.alloc _).below hb
 have X1 : w1.heap[w.heap.size]? = some (.cells #[.int .i64 c0.m, .int .i64 c0.h, .int .u64 c0.l, .int .u64 c0.g, .bool c0.st, .bool c0.wn, .int .u8 c0.f, .bool c0.up, .bool false, .int .u64 c0.v] 144) := heap_below hb (heap_new w _)
 have hbx : b ≠ w.heap.size := Nat.ne_of_lt klt
 have hK : Keeps (· = b) w w1 := ((Keeps.refl _ _).alloc _).trans (Keeps.ofBelow hb)
 clear k0 k1 k2 k3 k4 k5 k6 k7 k8 k9 kf HRV hb
 obtain ⟨k0, k1, k2, k3, k4, k5, k6, k7, k8, k9, kf, klt1⟩ := H1.f0
 have hg : w.heap.size ≤ w.heap.size := Nat.le_refl _
 have hso : ∀ (W : World) (k : Nat) (v : Value), (W.setCell ⟨w.heap.size, k, none⟩ v).heap[b]? = W.heap[b]? := fun W k v => heap_set_other _ hbx
 generalize hgx : w.heap.size = gx at X1 hso hg ⊢
 have HG := Lib.hid hgx
 have z0 : w1.cell? ⟨gx, 0, none⟩ = some (.int .i64 c0.m) := by rw [cell_at X1]; rfl
 have z1 : w1.cell? ⟨gx, 1, none⟩ = some (.int .i64 c0.h) := by rw [cell_at X1]; rfl
 have z2 : w1.cell? ⟨gx, 2, none⟩ = some (.int .u64 c0.l) := by rw [cell_at X1]; rfl
 have z3 : w1.cell? ⟨gx, 3, none⟩ = some (.int .u64 c0.g) := by rw [cell_at X1]; rfl
 have z4 : w1.cell? ⟨gx, 4, none⟩ = some (.bool c0.st) := by rw [cell_at X1]; rfl
 have z5 : w1.cell? ⟨gx, 5, none⟩ = some (.bool c0.wn) := by rw [cell_at X1]; rfl
 have z6 : w1.cell? ⟨gx, 6, none⟩ = some (.int .u8 c0.f) := by rw [cell_at X1]; rfl
 have z7 : w1.cell? ⟨gx, 7, none⟩ = some (.bool c0.up) := by rw [cell_at X1]; rfl
 have z8 : w1.cell? ⟨gx, 8, none⟩ = some (.bool false) := by rw [cell_at X1]; rfl
 have z9 : w1.cell? ⟨gx, 9, none⟩ = some (.int .u64 c0.v) := by rw [cell_at X1]; rfl
 have zf : ∀ k, w1.frozen? ⟨gx, k, none⟩ = false := fun k => free_at X1
 have zl := heap_lt X1
 go_wp2_with fail
 all_goals
  go_region
 all_goals
  go_wp2_with fail
  go_returns
  exact ⟨rfl, by ((repeat' (first | (with_reducible refine RT.alloc ?_ _) | (with_reducible refine RT.drew ?_) | (with_reducible refine RT.drewN ?_ _))); unfold RT rct at H1 ⊢; simp only [hso, heap_drew, heap_set_map, putObj_cells, H1, Option.map_some, List.cons_append, List.nil_append, List.set_cons_succ, List.set_cons_zero, Bool.and_false, Bool.and_true, Bool.true_and, Bool.false_and, Bool.not_true, Bool.not_false, Bool.bne_true, Bool.bne_false]), by (repeat' (first | (with_reducible exact Keeps.refl _ _) | (with_reducible assumption) | (with_reducible refine Keeps.setOne ?_ _ _) | (with_reducible refine Keeps.alloc ?_ _) | (with_reducible refine Keeps.drew ?_) | (with_reducible refine Keeps.drewN ?_ _) | (refine Keeps.setCell ?_ (.inr (by have := HG.out; show _ ≤ gx; omega)) _)))⟩
theorem rcmd1_hi {w : World} {b : Nat} {c0 c1 c2 : Pit.Ct} {t : Int} (H : RT w b c0 c1 c2) (x hh mm : Int) (x0 : 0 ≤ x) (x1 : x < 256) (e0 : x / 64 = 1) (e1 : x / 16 % 4 = hh) (e2 : x / 2 % 8 = mm) (e3 : (hh == 0) = false) (hm : 5 < mm) (hm2 : 0 ≤ mm ∧ mm ≤ 7) :
    Calls Tryz.prog 141 #[.pointer (some ⟨b, 0, none⟩), .int .u8 x, .int .u64 t] w fun e w' => e = .returned (.tuple #[]) ∧ RT w' b c0 { c1 with h := hh, hd := false, wn := false, up := (hh == 2), st := true, m := mm - 4 } c2 ∧ Keeps (· = b) w w' := by
 obtain ⟨k0, k1, k2, k3, k4, k5, k6, k7, k8, k9, kf, klt⟩ := H.f1
 go_enter Tryz.func141, Tryz.ntmps141
 go_wp2_with fail
 all_goals
  go_region
 all_goals
  go_wp2_with fail
  go_returns
  exact ⟨rfl, by ((repeat' (first | (with_reducible refine RT.alloc ?_ _) | (with_reducible refine RT.drew ?_) | (with_reducible refine RT.drewN ?_ _))); unfold RT rct at H ⊢; simp only [heap_drew, heap_set_map, putObj_cells, H, Option.map_some, List.cons_append, List.nil_append, List.set_cons_succ, List.set_cons_zero, Bool.and_false, Bool.and_true, Bool.true_and, Bool.false_and, Bool.not_true, Bool.not_false, Bool.bne_true, Bool.bne_false]), by (repeat' (first | (with_reducible exact Keeps.refl _ _) | (with_reducible assumption) | (with_reducible refine Keeps.setOne ?_ _ _) | (with_reducible refine Keeps.alloc ?_ _) | (with_reducible refine Keeps.drew ?_) | (with_reducible refine Keeps.drewN ?_ _) | (refine Keeps.setCell ?_ (.inr (by simp)) _)))⟩
theorem rcmd1_lo {w : World} {b : Nat} {c0 c1 c2 : Pit.Ct} {t : Int} (H : RT w b c0 c1 c2) (x hh mm : Int) (x0 : 0 ≤ x) (x1 : x < 256) (e0 : x / 64 = 1) (e1 : x / 16 % 4 = hh) (e2 : x / 2 % 8 = mm) (e3 : (hh == 0) = false) (hm : mm ≤ 5) (hm2 : 0 ≤ mm ∧ mm ≤ 7) :
    Calls Tryz.prog 141 #[.pointer (some ⟨b, 0, none⟩), .int .u8 x, .int .u64 t] w fun e w' => e = .returned (.tuple #[]) ∧ RT w' b c0 { c1 with h := hh, hd := false, wn := false, up := (hh == 2), st := true, m := mm } c2 ∧ Keeps (· = b) w w' := by
 obtain ⟨k0, k1, k2, k3, k4, k5, k6, k7, k8, k9, kf, klt⟩ := H.f1
 go_enter Tryz.func141, Tryz.ntmps141
 go_wp2_with fail
 all_goals
  go_region
 all_goals
  go_wp2_with fail
  go_returns
  exact ⟨rfl, by ((repeat' (first | (with_reducible refine RT.alloc ?_ _) | (with_reducible refine RT.drew ?_) | (with_reducible refine RT.drewN ?_ _))); unfold RT rct at H ⊢; simp only [heap_drew, heap_set_map, putObj_cells, H, Option.map_some, List.cons_append, List.nil_append, List.set_cons_succ, List.set_cons_zero, Bool.and_false, Bool.and_true, Bool.true_and, Bool.false_and, Bool.not_true, Bool.not_false, Bool.bne_true, Bool.bne_false]), by (repeat' (first | (with_reducible exact Keeps.refl _ _) | (with_reducible assumption) | (with_reducible refine Keeps.setOne ?_ _ _) | (with_reducible refine Keeps.alloc ?_ _) | (with_reducible refine Keeps.drew ?_) | (with_reducible refine Keeps.drewN ?_ _) | (refine Keeps.setCell ?_ (.inr (by simp)) _)))⟩
theorem rcmd1_held {w : World} {b : Nat} {c0 c1 c2 : Pit.Ct} {t : Int} (H : RT w b c0 c1 c2) (x : Int) (x0 : 0 ≤ x) (x1 : x < 256) (e0 : x / 64 = 1) (e1 : x / 16 % 4 = 0) (e4 : c1.hd = true) :
    Calls Tryz.prog 141 #[.pointer (some ⟨b, 0, none⟩), .int .u8 x, .int .u64 t] w fun e w' => e = .returned (.tuple #[]) ∧ RT w' b c0 { c1 with hd := true } c2 ∧ Keeps (· = b) w w' := by
 obtain ⟨k0, k1, k2, k3, k4, k5, k6, k7, k8, k9, kf, klt⟩ := H.f1
 rw [e4] at k8
 go_enter Tryz.func141, Tryz.ntmps141
 go_wp2_with fail
 all_goals
  go_region
 all_goals
  go_wp2_with fail
  go_returns
  exact ⟨rfl, by ((repeat' (first | (with_reducible refine RT.alloc ?_ _) | (with_reducible refine RT.drew ?_) | (with_reducible refine RT.drewN ?_ _))); unfold RT rct at H ⊢; simp only [heap_drew, heap_set_map, putObj_cells, H, Option.map_some, List.cons_append, List.nil_append, List.set_cons_succ, List.set_cons_zero, Bool.and_false, Bool.and_true, Bool.true_and, Bool.false_and, Bool.not_true, Bool.not_false, Bool.bne_true, Bool.bne_false]), by (repeat' (first | (with_reducible exact Keeps.refl _ _) | (with_reducible assumption) | (with_reducible refine Keeps.setOne ?_ _ _) | (with_reducible refine Keeps.alloc ?_ _) | (with_reducible refine Keeps.drew ?_) | (with_reducible refine Keeps.drewN ?_ _) | (refine Keeps.setCell ?_ (.inr (by simp)) _)))⟩
theorem rcmd1_free {w : World} {b : Nat} {c0 c1 c2 : Pit.Ct} {t : Int} (H : RT w b c0 c1 c2) (ok : c1.ok t) (ht : t < 18446744073709551616) (x : Int) (x0 : 0 ≤ x) (x1 : x < 256) (e0 : x / 64 = 1) (e1 : x / 16 % 4 = 0) (e4 : c1.hd = false) :
    Calls Tryz.prog 141 #[.pointer (some ⟨b, 0, none⟩), .int .u8 x, .int .u64 t] w fun e w' => e = .returned (.tuple #[]) ∧ RT w' b c0 { c1 with v := c1.val t, hd := true } c2 ∧ Keeps (· = b) w w' := by
 have HRV0 : ∀ w : World, Calls Tryz.prog 143 #[.agg #[.int .i64 c1.m, .int .i64 c1.h, .int .u64 c1.l, .int .u64 c1.g, .bool c1.st, .bool c1.wn, .int .u8 c1.f, .bool c1.up, .bool c1.hd, .int .u64 c1.v], .int .u64 t] w fun e w' => e = .returned (.int .u64 (c1.val t)) ∧ Below w.heap.size w w' := fun w => rval_any ok ht w
 rw [e4] at HRV0
 have HRV := Lib.hid HRV0
 clear HRV0
 obtain ⟨k0, k1, k2, k3, k4, k5, k6, k7, k8, k9, kf, klt⟩ := H.f1
 rw [e4] at k8
 clear ok ht
 go_enter Tryz.func141, Tryz.ntmps141
 go_wp2_with fail
 refine (HRV.out _).mono ?_
 rintro e w1 ⟨rfl, hb⟩
 have H1 : RT w1 b c0 c1 c2 := (H.alloc _).below hb
 have X1 : w1.heap[w.heap.size]? = some (.cells #[.int .i64 c1.m, .int .i64 c1.h, .int .u64 c1.l, .int .u64 c1.g, .bool c1.st, .bool c1.wn, .int .u8 c1.f, .bool c1.up, .bool false, .int .u64 c1.v] 144) := heap_below hb (heap_new w _)
 have hbx : b ≠ w.heap.size := Nat.ne_of_lt klt
 have hK : Keeps (· = b) w w1 := ((Keeps.refl _ _).alloc _).trans (Keeps.ofBelow hb)
 clear k0 k1 k2 k3 k4 k5 k6 k7 k8 k9 kf HRV hb
 obtain ⟨k0, k1, k2, k3, k4, k5, k6, k7, k8, k9, kf, klt1⟩ := H1.f1
 have hg : w.heap.size ≤ w.heap.size := Nat.le_refl _
 have hso : ∀ (W : World) (k : Nat) (v : Value), (W.setCell ⟨w.heap.size, k, none⟩ v).heap[b]? = W.heap[b]? := fun W k v => heap_set_other _ hbx
 generalize hgx : w.heap.size = gx at X1 hso hg ⊢
 have HG := Lib.hid hgx
 have z0 : w1.cell? ⟨gx, 0, none⟩ = some (.int .i64 c1.m) := by rw [cell_at X1]; rfl
 have z1 : w1.cell? ⟨gx, 1, none⟩ = some (.int .i64 c1.h) := by rw [cell_at X1]; rfl
 have z2 : w1.cell? ⟨gx, 2, none⟩ = some (.int .u64 c1.l) := by rw [cell_at X1]; rfl
 have z3 : w1.cell? ⟨gx, 3, none⟩ = some (.int .u64 c1.g) := by rw [cell_at X1]; rfl
 have z4 : w1.cell? ⟨gx, 4, none⟩ = some (.bool c1.st) := by rw [cell_at X1]; rfl
 have z5 : w1.cell? ⟨gx, 5, none⟩ = some (.bool c1.wn) := by rw [cell_at X1]; rfl
 have z6 : w1.cell? ⟨gx, 6, none⟩ = some (.int .u8 c1.f) := by rw [cell_at X1]; rfl
 have z7 : w1.cell? ⟨gx, 7, none⟩ = some (.bool c1.up) := by rw [cell_at X1]; rfl
 have z8 : w1.cell? ⟨gx, 8, none⟩ = some (.bool false) := by rw [cell_at X1]; rfl
 have z9 : w1.cell? ⟨gx, 9, none⟩ = some (.int .u64 c1.v) := by rw [cell_at X1]; rfl
 have zf : ∀ k, w1.frozen? ⟨gx, k, none⟩ = false := fun k => free_at X1
 have zl := heap_lt X1
 go_wp2_with fail
 all_goals
  go_region
 all_goals
  go_wp2_with fail
  go_returns
  exact ⟨rfl, by ((repeat' (first | (with_reducible refine RT.alloc ?_ _) | (with_reducible refine RT.drew ?_) | (with_reducible refine RT.drewN ?_ _))); unfold RT rct at H1 ⊢; simp only [hso, heap_drew, heap_set_map, putObj_cells, H1, Option.map_some, List.cons_append, List.nil_append, List.set_cons_succ, List.set_cons_zero, Bool.and_false, Bool.and_true, Bool.true_and, Bool.false_and, Bool.not_true, Bool.not_false, Bool.bne_true, Bool.bne_false]), by (repeat' (first | (with_reducible exact Keeps.refl _ _) | (with_reducible assumption) | (with_reducible refine Keeps.setOne ?_ _ _) | (with_reducible refine Keeps.alloc ?_ _) | (with_reducible refine Keeps.drew ?_) | (with_reducible refine Keeps.drewN ?_ _) | (refine Keeps.setCell ?_ (.inr (by have := HG.out; show _ ≤ gx; omega)) _)))⟩
theorem rcmd2_hi {w : World} {b : Nat} {c0 c1 c2 : Pit.Ct} {t : Int} (H : RT w b c0 c1 c2) (x hh mm : Int) (x0 : 0 ≤ x) (x1 : x < 256) (e0 : x / 64 = 2) (e1 : x / 16 % 4 = hh) (e2 : x / 2 % 8 = mm) (e3 : (hh == 0) = false) (hm : 5 < mm) (hm2 : 0 ≤ mm ∧ mm ≤ 7) :
    Calls Tryz.prog 141 #[.pointer (some ⟨b, 0, none⟩), .int .u8 x, .int .u64 t] w fun e w' => e = .returned (.tuple #[]) ∧ RT w' b c0 c1 { c2 with h := hh, hd := false, wn := false, up := (hh == 2), st := true, m := mm - 4 } ∧ Keeps (· = b) w w' := by
 obtain ⟨k0, k1, k2, k3, k4, k5, k6, k7, k8, k9, kf, klt⟩ := H.f2
 go_enter Tryz.func141, Tryz.ntmps141
 go_wp2_with fail
 all_goals
  go_region
 all_goals
  go_wp2_with fail
  go_returns
  exact ⟨rfl, by ((repeat' (first | (with_reducible refine RT.alloc ?_ _) | (with_reducible refine RT.drew ?_) | (with_reducible refine RT.drewN ?_ _))); unfold RT rct at H ⊢; simp only [heap_drew, heap_set_map, putObj_cells, H, Option.map_some, List.cons_append, List.nil_append, List.set_cons_succ, List.set_cons_zero, Bool.and_false, Bool.and_true, Bool.true_and, Bool.false_and, Bool.not_true, Bool.not_false, Bool.bne_true, Bool.bne_false]), by (repeat' (first | (with_reducible exact Keeps.refl _ _) | (with_reducible assumption) | (with_reducible refine Keeps.setOne ?_ _ _) | (with_reducible refine Keeps.alloc ?_ _) | (with_reducible refine Keeps.drew ?_) | (with_reducible refine Keeps.drewN ?_ _) | (refine Keeps.setCell ?_ (.inr (by simp)) _)))⟩
theorem rcmd2_lo {w : World} {b : Nat} {c0 c1 c2 : Pit.Ct} {t : Int} (H : RT w b c0 c1 c2) (x hh mm : Int) (x0 : 0 ≤ x) (x1 : x < 256) (e0 : x / 64 = 2) (e1 : x / 16 % 4 = hh) (e2 : x / 2 % 8 = mm) (e3 : (hh == 0) = false) (hm : mm ≤ 5) (hm2 : 0 ≤ mm ∧ mm ≤ 7) :
    Calls Tryz.prog 141 #[.pointer (some ⟨b, 0, none⟩), .int .u8 x, .int .u64 t] w fun e w' => e = .returned (.tuple #[]) ∧ RT w' b c0 c1 { c2 with h := hh, hd := false, wn := false, up := (hh == 2), st := true, m := mm } ∧ Keeps (· = b) w w' := by
 obtain ⟨k0, k1, k2, k3, k4, k5, k6, k7, k8, k9, kf, klt⟩ := H.f2
 go_enter Tryz.func141, Tryz.ntmps141
 go_wp2_with fail
 all_goals
  go_region
 all_goals
  go_wp2_with fail
  go_returns
  exact ⟨rfl, by ((repeat' (first | (with_reducible refine RT.alloc ?_ _) | (with_reducible refine RT.drew ?_) | (with_reducible refine RT.drewN ?_ _))); unfold RT rct at H ⊢; simp only [heap_drew, heap_set_map, putObj_cells, H, Option.map_some, List.cons_append, List.nil_append, List.set_cons_succ, List.set_cons_zero, Bool.and_false, Bool.and_true, Bool.true_and, Bool.false_and, Bool.not_true, Bool.not_false, Bool.bne_true, Bool.bne_false]), by (repeat' (first | (with_reducible exact Keeps.refl _ _) | (with_reducible assumption) | (with_reducible refine Keeps.setOne ?_ _ _) | (with_reducible refine Keeps.alloc ?_ _) | (with_reducible refine Keeps.drew ?_) | (with_reducible refine Keeps.drewN ?_ _) | (refine Keeps.setCell ?_ (.inr (by simp)) _)))⟩
theorem rcmd2_held {w : World} {b : Nat} {c0 c1 c2 : Pit.Ct} {t : Int} (H : RT w b c0 c1 c2) (x : Int) (x0 : 0 ≤ x) (x1 : x < 256) (e0 : x / 64 = 2) (e1 : x / 16 % 4 = 0) (e4 : c2.hd = true) :
    Calls Tryz.prog 141 #[.pointer (some ⟨b, 0, none⟩), .int .u8 x, .int .u64 t] w fun e w' => e = .returned (.tuple #[]) ∧ RT w' b c0 c1 { c2 with hd := true } ∧ Keeps (· = b) w w' := by
 obtain ⟨k0, k1, k2, k3, k4, k5, k6, k7, k8, k9, kf, klt⟩ := H.f2
 rw [e4] at k8
 go_enter Tryz.func141, Tryz.ntmps141
 go_wp2_with fail
 all_goals
  go_region
 all_goals
  go_wp2_with fail
  go_returns
  exact ⟨rfl, by ((repeat' (first | (with_reducible refine RT.alloc ?_ _) | (with_reducible refine RT.drew ?_) | (with_reducible refine RT.drewN ?_ _))); unfold RT rct at H ⊢; simp only [heap_drew, heap_set_map, putObj_cells, H, Option.map_some, List.cons_append, List.nil_append, List.set_cons_succ, List.set_cons_zero, Bool.and_false, Bool.and_true, Bool.true_and, Bool.false_and, Bool.not_true, Bool.not_false, Bool.bne_true, Bool.bne_false]), by (repeat' (first | (with_reducible exact Keeps.refl _ _) | (with_reducible assumption) | (with_reducible refine Keeps.setOne ?_ _ _) | (with_reducible refine Keeps.alloc ?_ _) | (with_reducible refine Keeps.drew ?_) | (with_reducible refine Keeps.drewN ?_ _) | (refine Keeps.setCell ?_ (.inr (by simp)) _)))⟩
theorem rcmd2_free {w : World} {b : Nat} {c0 c1 c2 : Pit.Ct} {t : Int} (H : RT w b c0 c1 c2) (ok : c2.ok t) (ht : t < 18446744073709551616) (x : Int) (x0 : 0 ≤ x) (x1 : x < 256) (e0 : x / 64 = 2) (e1 : x / 16 % 4 = 0) (e4 : c2.hd = false) :
    Calls Tryz.prog 141 #[.pointer (some ⟨b, 0, none⟩), .int .u8 x, .int .u64 t] w fun e w' => e = .returned (.tuple #[]) ∧ RT w' b c0 c1 { c2 with v := c2.val t, hd := true } ∧ Keeps (· = b) w w' := by
 have HRV0 : ∀ w : World, Calls Tryz.prog 143 #[.agg #[.int .i64 c2.m, .int .i64 c2.h, .int .u64 c2.l, .int .u64 c2.g, .bool c2.st, .bool c2.wn, .int .u8 c2.f, .bool c2.up, .bool c2.hd, .int .u64 c2.v], .int .u64 t] w fun e w' => e = .returned (.int .u64 (c2.val t)) ∧ Below w.heap.size w w' := fun w => rval_any ok ht w
 rw [e4] at HRV0
 have HRV := Lib.hid HRV0
 clear HRV0
 obtain ⟨k0, k1, k2, k3, k4, k5, k6, k7, k8, k9, kf, klt⟩ := H.f2
 rw [e4] at k8
 clear ok ht
 go_enter Tryz.func141, Tryz.ntmps141
 go_wp2_with fail
 refine (HRV.out _).mono ?_
 rintro e w1 ⟨rfl, hb⟩
 have H1 : RT w1 b c0 c1 c2 := (H.alloc _).below hb
 have X1 : w1.heap[w.heap.size]? = some (.cells #[.int .i64 c2.m, .int .i64 c2.h, .int .u64 c2.l, .int .u64 c2.g, .bool c2.st, .bool c2.wn, .int .u8 c2.f, .bool c2.up, .bool false, .int .u64 c2.v] 144) := heap_below hb (heap_new w _)
 have hbx : b ≠ w.heap.size := Nat.ne_of_lt klt
 have hK : Keeps (· = b) w w1 := ((Keeps.refl _ _).alloc _).trans (Keeps.ofBelow hb)
 clear k0 k1 k2 k3 k4 k5 k6 k7 k8 k9 kf HRV hb
 obtain ⟨k0, k1, k2, k3, k4, k5, k6, k7, k8, k9, kf, klt1⟩ := H1.f2
 have hg : w.heap.size ≤ w.heap.size := Nat.le_refl _
 have hso : ∀ (W : World) (k : Nat) (v : Value), (W.setCell ⟨w.heap.size, k, none⟩ v).heap[b]? = W.heap[b]? := fun W k v => heap_set_other _ hbx
 generalize hgx : w.heap.size = gx at X1 hso hg ⊢
 have HG := Lib.hid hgx
 have z0 : w1.cell? ⟨gx, 0, none⟩ = some (.int .i64 c2.m) := by rw [cell_at X1]; rfl
 have z1 : w1.cell? ⟨gx, 1, none⟩ = some (.int .i64 c2.h) := by rw [cell_at X1]; rfl
 have z2 : w1.cell? ⟨gx, 2, none⟩ = some (.int .u64 c2.l) := by rw [cell_at X1]; rfl
 have z3 : w1.cell? ⟨gx, 3, none⟩ = some (.int .u64 c2.g) := by rw [cell_at X1]; rfl
 have z4 : w1.cell? ⟨gx, 4, none⟩ = some (.bool c2.st) := by rw [cell_at X1]; rfl
 have z5 : w1.cell? ⟨gx, 5, none⟩ = some (.bool c2.wn) := by rw [cell_at X1]; rfl
 have z6 : w1.cell? ⟨gx, 6, none⟩ = some (.int .u8 c2.f) := by rw [cell_at X1]; rfl
 have z7 : w1.cell? ⟨gx, 7, none⟩ = some (.bool c2.up) := by rw [cell_at X1]; rfl
 have z8 : w1.cell? ⟨gx, 8, none⟩ = some (.bool false) := by rw [cell_at X1]; rfl
 have z9 : w1.cell? ⟨gx, 9, none⟩ = some (.int .u64 c2.v) := by rw [cell_at X1]; rfl
 have zf : ∀ k, w1.frozen? ⟨gx, k, none⟩ = false := fun k => free_at X1
 have zl := heap_lt X1
 go_wp2_with fail
 all_goals
  go_region
 all_goals
  go_wp2_with fail
  go_returns
  exact ⟨rfl, by ((repeat' (first | (with_reducible refine RT.alloc ?_ _) | (with_reducible refine RT.drew ?_) | (with_reducible refine RT.drewN ?_ _))); unfold RT rct at H1 ⊢; simp only [hso, heap_drew, heap_set_map, putObj_cells, H1, Option.map_some, List.cons_append, List.nil_append, List.set_cons_succ, List.set_cons_zero, Bool.and_false, Bool.and_true, Bool.true_and, Bool.false_and, Bool.not_true, Bool.not_false, Bool.bne_true, Bool.bne_false]), by (repeat' (first | (with_reducible exact Keeps.refl _ _) | (with_reducible assumption) | (with_reducible refine Keeps.setOne ?_ _ _) | (with_reducible refine Keeps.alloc ?_ _) | (with_reducible refine Keeps.drew ?_) | (with_reducible refine Keeps.drewN ?_ _) | (refine Keeps.setCell ?_ (.inr (by have := HG.out; show _ ≤ gx; omega)) _)))⟩
theorem rcmd_ct0 {w : World} {b : Nat} {c0 c1 c2 : Pit.Ct} {t : Int} (H : RT w b c0 c1 c2) (ok : c0.ok t) (ht : t < 18446744073709551616) (x : Int) (x0 : 0 ≤ x) (x1 : x < 256) (e0 : x / 64 = 0) :
    Calls Tryz.prog 141 #[.pointer (some ⟨b, 0, none⟩), .int .u8 x, .int .u64 t] w fun e w' => e = .returned (.tuple #[]) ∧ RT w' b (c0.cmd x t) c1 c2 ∧ Keeps (· = b) w w' := by
 unfold Pit.Ct.cmd
 by_cases hz : x / 16 % 4 = 0
 ·rw [if_pos hz]
  cases h8 : c0.hd
  ·exact rcmd0_free H ok ht x x0 x1 e0 hz h8
  ·have h := rcmd0_held (t := t) H x x0 x1 e0 hz h8
   rw [← h8] at h
   exact h
 ·rw [if_neg hz]
  by_cases h5 : 5 < x / 2 % 8
  ·rw [if_pos h5]
   exact rcmd0_hi H x _ _ x0 x1 e0 rfl rfl (by simpa using hz) h5 (by omega)
  ·rw [if_neg h5]
   exact rcmd0_lo H x _ _ x0 x1 e0 rfl rfl (by simpa using hz) (by omega) (by omega)
theorem rcmd_ct1 {w : World} {b : Nat} {c0 c1 c2 : Pit.Ct} {t : Int} (H : RT w b c0 c1 c2) (ok : c1.ok t) (ht : t < 18446744073709551616) (x : Int) (x0 : 0 ≤ x) (x1 : x < 256) (e0 : x / 64 = 1) :
    Calls Tryz.prog 141 #[.pointer (some ⟨b, 0, none⟩), .int .u8 x, .int .u64 t] w fun e w' => e = .returned (.tuple #[]) ∧ RT w' b c0 (c1.cmd x t) c2 ∧ Keeps (· = b) w w' := by
 unfold Pit.Ct.cmd
 by_cases hz : x / 16 % 4 = 0
 ·rw [if_pos hz]
  cases h8 : c1.hd
  ·exact rcmd1_free H ok ht x x0 x1 e0 hz h8
  ·have h := rcmd1_held (t := t) H x x0 x1 e0 hz h8
   rw [← h8] at h
   exact h
 ·rw [if_neg hz]
  by_cases h5 : 5 < x / 2 % 8
  ·rw [if_pos h5]
   exact rcmd1_hi H x _ _ x0 x1 e0 rfl rfl (by simpa using hz) h5 (by omega)
  ·rw [if_neg h5]
   exact rcmd1_lo H x _ _ x0 x1 e0 rfl rfl (by simpa using hz) (by omega) (by omega)
theorem rcmd_ct2 {w : World} {b : Nat} {c0 c1 c2 : Pit.Ct} {t : Int} (H : RT w b c0 c1 c2) (ok : c2.ok t) (ht : t < 18446744073709551616) (x : Int) (x0 : 0 ≤ x) (x1 : x < 256) (e0 : x / 64 = 2) :
    Calls Tryz.prog 141 #[.pointer (some ⟨b, 0, none⟩), .int .u8 x, .int .u64 t] w fun e w' => e = .returned (.tuple #[]) ∧ RT w' b c0 c1 (c2.cmd x t) ∧ Keeps (· = b) w w' := by
 unfold Pit.Ct.cmd
 by_cases hz : x / 16 % 4 = 0
 ·rw [if_pos hz]
  cases h8 : c2.hd
  ·exact rcmd2_free H ok ht x x0 x1 e0 hz h8
  ·have h := rcmd2_held (t := t) H x x0 x1 e0 hz h8
   rw [← h8] at h
   exact h
 ·rw [if_neg hz]
  by_cases h5 : 5 < x / 2 % 8
  ·rw [if_pos h5]
   exact rcmd2_hi H x _ _ x0 x1 e0 rfl rfl (by simpa using hz) h5 (by omega)
  ·rw [if_neg h5]
   exact rcmd2_lo H x _ _ x0 x1 e0 rfl rfl (by simpa using hz) (by omega) (by omega)
theorem rcmd3 {w : World} {b : Nat} {c0 c1 c2 : Pit.Ct} {t : Int} (H : RT w b c0 c1 c2) (x : Int) (x0 : 0 ≤ x) (x1 : x < 256) (e0 : x / 64 = 3) :
    Calls Tryz.prog 141 #[.pointer (some ⟨b, 0, none⟩), .int .u8 x, .int .u64 t] w fun e w' => e = .returned (.tuple #[]) ∧ RT w' b c0 c1 c2 ∧ Keeps (· = b) w w' := by
 go_enter Tryz.func141, Tryz.ntmps141
 go_wp2_with fail
 all_goals
  go_returns
  exact ⟨rfl, H, Keeps.refl _ _⟩
theorem rput0_first {w : World} {b : Nat} {c0 c1 c2 : Pit.Ct} {t : Int} (H : RT w b c0 c1 c2) (x : Int) (x0 : 0 ≤ x) (x1 : x < 256) (e1 : c0.h = 3) (e2 : c0.wn = false) :
    Calls Tryz.prog 116 #[.pointer (some ⟨b, 0, none⟩), .int .i64 0, .int .u8 x, .int .u64 t] w fun e w' => e = .returned (.int .i64 0) ∧ RT w' b { c0 with h := 3, wn := true, f := x } c1 c2 ∧ Keeps (· = b) w w' := by
 obtain ⟨k0, k1, k2, k3, k4, k5, k6, k7, k8, k9, kf, klt⟩ := H.f0
 rw [e1] at k1
 rw [e2] at k5
 go_enter Tryz.func116, Tryz.ntmps116
 go_wp2_with fail
 all_goals
  go_region
 all_goals
  go_wp2_with fail
  go_ret
  exact ⟨rfl, by ((repeat' (first | (with_reducible refine RT.alloc ?_ _) | (with_reducible refine RT.drew ?_) | (with_reducible refine RT.drewN ?_ _))); unfold RT rct at H ⊢; simp only [heap_drew, heap_set_map, putObj_cells, H, Option.map_some, List.cons_append, List.nil_append, List.set_cons_succ, List.set_cons_zero, Bool.and_false, Bool.and_true, Bool.true_and, Bool.false_and, Bool.not_true, Bool.not_false, Bool.bne_true, Bool.bne_false]), by (repeat' (first | (with_reducible exact Keeps.refl _ _) | (with_reducible assumption) | (with_reducible refine Keeps.setOne ?_ _ _) | (with_reducible refine Keeps.alloc ?_ _) | (with_reducible refine Keeps.drew ?_) | (with_reducible refine Keeps.drewN ?_ _) | (refine Keeps.setCell ?_ (.inr (by simp)) _)))⟩
theorem rput0_second {w : World} {b : Nat} {c0 c1 c2 : Pit.Ct} {t : Int} (H : RT w b c0 c1 c2) (x : Int) (x0 : 0 ≤ x) (x1 : x < 256) (f0 : 0 ≤ c0.f) (f1 : c0.f < 256) (e1 : c0.h = 3) (e2 : c0.wn = true) (hz : ((x * 256 + c0.f) == 0) = false) :
    Calls Tryz.prog 116 #[.pointer (some ⟨b, 0, none⟩), .int .i64 0, .int .u8 x, .int .u64 t] w fun e w' => e = .returned (.int .i64 0) ∧ RT w' b { c0 with h := 3, wn := false, l := (x * 256 + c0.f), g := t, st := false } c1 c2 ∧ Keeps (· = b) w w' := by
 obtain ⟨k0, k1, k2, k3, k4, k5, k6, k7, k8, k9, kf, klt⟩ := H.f0
 rw [e1] at k1
 rw [e2] at k5
 go_enter Tryz.func116, Tryz.ntmps116
 go_wp2_with fail
 all_goals
  go_region
 all_goals
  go_wp2_with fail
  go_ret
  exact ⟨rfl, by ((repeat' (first | (with_reducible refine RT.alloc ?_ _) | (with_reducible refine RT.drew ?_) | (with_reducible refine RT.drewN ?_ _))); unfold RT rct at H ⊢; simp only [heap_drew, heap_set_map, putObj_cells, H, Option.map_some, List.cons_append, List.nil_append, List.set_cons_succ, List.set_cons_zero, Bool.and_false, Bool.and_true, Bool.true_and, Bool.false_and, Bool.not_true, Bool.not_false, Bool.bne_true, Bool.bne_false]), by (repeat' (first | (with_reducible exact Keeps.refl _ _) | (with_reducible assumption) | (with_reducible refine Keeps.setOne ?_ _ _) | (with_reducible refine Keeps.alloc ?_ _) | (with_reducible refine Keeps.drew ?_) | (with_reducible refine Keeps.drewN ?_ _) | (refine Keeps.setCell ?_ (.inr (by simp)) _)))⟩
theorem rput0_second0 {w : World} {b : Nat} {c0 c1 c2 : Pit.Ct} {t : Int} (H : RT w b c0 c1 c2) (x : Int) (x0 : 0 ≤ x) (x1 : x < 256) (f0 : 0 ≤ c0.f) (f1 : c0.f < 256) (e1 : c0.h = 3) (e2 : c0.wn = true) (hz : ((x * 256 + c0.f) == 0) = true) :
    Calls Tryz.prog 116 #[.pointer (some ⟨b, 0, none⟩), .int .i64 0, .int .u8 x, .int .u64 t] w fun e w' => e = .returned (.int .i64 0) ∧ RT w' b { c0 with h := 3, wn := false, l := 65536, g := t, st := false } c1 c2 ∧ Keeps (· = b) w w' := by
 obtain ⟨k0, k1, k2, k3, k4, k5, k6, k7, k8, k9, kf, klt⟩ := H.f0
 rw [e1] at k1
 rw [e2] at k5
 go_enter Tryz.func116, Tryz.ntmps116
 go_wp2_with fail
 all_goals
  go_region
 all_goals
  go_wp2_with fail
  go_ret
  exact ⟨rfl, by ((repeat' (first | (with_reducible refine RT.alloc ?_ _) | (with_reducible refine RT.drew ?_) | (with_reducible refine RT.drewN ?_ _))); unfold RT rct at H ⊢; simp only [heap_drew, heap_set_map, putObj_cells, H, Option.map_some, List.cons_append, List.nil_append, List.set_cons_succ, List.set_cons_zero, Bool.and_false, Bool.and_true, Bool.true_and, Bool.false_and, Bool.not_true, Bool.not_false, Bool.bne_true, Bool.bne_false]), by (repeat' (first | (with_reducible exact Keeps.refl _ _) | (with_reducible assumption) | (with_reducible refine Keeps.setOne ?_ _ _) | (with_reducible refine Keeps.alloc ?_ _) | (with_reducible refine Keeps.drew ?_) | (with_reducible refine Keeps.drewN ?_ _) | (refine Keeps.setCell ?_ (.inr (by simp)) _)))⟩
theorem rput0_two {w : World} {b : Nat} {c0 c1 c2 : Pit.Ct} {t : Int} (H : RT w b c0 c1 c2) (x : Int) (x0 : 0 ≤ x) (x1 : x < 256) (f0 : 0 ≤ c0.f) (f1 : c0.f < 256) (e1 : c0.h = 2) (hz : ((x * 256) == 0) = false) :
    Calls Tryz.prog 116 #[.pointer (some ⟨b, 0, none⟩), .int .i64 0, .int .u8 x, .int .u64 t] w fun e w' => e = .returned (.int .i64 0) ∧ RT w' b { c0 with h := 2, wn := false, l := (x * 256), g := t, st := false } c1 c2 ∧ Keeps (· = b) w w' := by
 obtain ⟨k0, k1, k2, k3, k4, k5, k6, k7, k8, k9, kf, klt⟩ := H.f0
 rw [e1] at k1
 go_enter Tryz.func116, Tryz.ntmps116
 go_wp2_with fail
 all_goals
  go_region
 all_goals
  go_wp2_with fail
  go_ret
  exact ⟨rfl, by ((repeat' (first | (with_reducible refine RT.alloc ?_ _) | (with_reducible refine RT.drew ?_) | (with_reducible refine RT.drewN ?_ _))); unfold RT rct at H ⊢; simp only [heap_drew, heap_set_map, putObj_cells, H, Option.map_some, List.cons_append, List.nil_append, List.set_cons_succ, List.set_cons_zero, Bool.and_false, Bool.and_true, Bool.true_and, Bool.false_and, Bool.not_true, Bool.not_false, Bool.bne_true, Bool.bne_false]), by (repeat' (first | (with_reducible exact Keeps.refl _ _) | (with_reducible assumption) | (with_reducible refine Keeps.setOne ?_ _ _) | (with_reducible refine Keeps.alloc ?_ _) | (with_reducible refine Keeps.drew ?_) | (with_reducible refine Keeps.drewN ?_ _) | (refine Keeps.setCell ?_ (.inr (by simp)) _)))⟩
theorem rput0_two0 {w : World} {b : Nat} {c0 c1 c2 : Pit.Ct} {t : Int} (H : RT w b c0 c1 c2) (x : Int) (x0 : 0 ≤ x) (x1 : x < 256) (f0 : 0 ≤ c0.f) (f1 : c0.f < 256) (e1 : c0.h = 2) (hz : ((x * 256) == 0) = true) :
    Calls Tryz.prog 116 #[.pointer (some ⟨b, 0, none⟩), .int .i64 0, .int .u8 x, .int .u64 t] w fun e w' => e = .returned (.int .i64 0) ∧ RT w' b { c0 with h := 2, wn := false, l := 65536, g := t, st := false } c1 c2 ∧ Keeps (· = b) w w' := by
 obtain ⟨k0, k1, k2, k3, k4, k5, k6, k7, k8, k9, kf, klt⟩ := H.f0
 rw [e1] at k1
 go_enter Tryz.func116, Tryz.ntmps116
 go_wp2_with fail
 all_goals
  go_region
 all_goals
  go_wp2_with fail
  go_ret
  exact ⟨rfl, by ((repeat' (first | (with_reducible refine RT.alloc ?_ _) | (with_reducible refine RT.drew ?_) | (with_reducible refine RT.drewN ?_ _))); unfold RT rct at H ⊢; simp only [heap_drew, heap_set_map, putObj_cells, H, Option.map_some, List.cons_append, List.nil_append, List.set_cons_succ, List.set_cons_zero, Bool.and_false, Bool.and_true, Bool.true_and, Bool.false_and, Bool.not_true, Bool.not_false, Bool.bne_true, Bool.bne_false]), by (repeat' (first | (with_reducible exact Keeps.refl _ _) | (with_reducible assumption) | (with_reducible refine Keeps.setOne ?_ _ _) | (with_reducible refine Keeps.alloc ?_ _) | (with_reducible refine Keeps.drew ?_) | (with_reducible refine Keeps.drewN ?_ _) | (refine Keeps.setCell ?_ (.inr (by simp)) _)))⟩
theorem rput0_one {w : World} {b : Nat} {c0 c1 c2 : Pit.Ct} {t : Int} (H : RT w b c0 c1 c2) (x : Int) (x0 : 0 ≤ x) (x1 : x < 256) (f0 : 0 ≤ c0.f) (f1 : c0.f < 256) (e1 : c0.h = 1) (hz : (x == 0) = false) :
    Calls Tryz.prog 116 #[.pointer (some ⟨b, 0, none⟩), .int .i64 0, .int .u8 x, .int .u64 t] w fun e w' => e = .returned (.int .i64 0) ∧ RT w' b { c0 with h := 1, wn := false, l := x, g := t, st := false } c1 c2 ∧ Keeps (· = b) w w' := by
 obtain ⟨k0, k1, k2, k3, k4, k5, k6, k7, k8, k9, kf, klt⟩ := H.f0
 rw [e1] at k1
 go_enter Tryz.func116, Tryz.ntmps116
 go_wp2_with fail
 all_goals
  go_region
 all_goals
  go_wp2_with fail
  go_ret
  exact ⟨rfl, by ((repeat' (first | (with_reducible refine RT.alloc ?_ _) | (with_reducible refine RT.drew ?_) | (with_reducible refine RT.drewN ?_ _))); unfold RT rct at H ⊢; simp only [heap_drew, heap_set_map, putObj_cells, H, Option.map_some, List.cons_append, List.nil_append, List.set_cons_succ, List.set_cons_zero, Bool.and_false, Bool.and_true, Bool.true_and, Bool.false_and, Bool.not_true, Bool.not_false, Bool.bne_true, Bool.bne_false]), by (repeat' (first | (with_reducible exact Keeps.refl _ _) | (with_reducible assumption) | (with_reducible refine Keeps.setOne ?_ _ _) | (with_reducible refine Keeps.alloc ?_ _) | (with_reducible refine Keeps.drew ?_) | (with_reducible refine Keeps.drewN ?_ _) | (refine Keeps.setCell ?_ (.inr (by simp)) _)))⟩
theorem rput0_one0 {w : World} {b : Nat} {c0 c1 c2 : Pit.Ct} {t : Int} (H : RT w b c0 c1 c2) (x : Int) (x0 : 0 ≤ x) (x1 : x < 256) (f0 : 0 ≤ c0.f) (f1 : c0.f < 256) (e1 : c0.h = 1) (hz : (x == 0) = true) :
    Calls Tryz.prog 116 #[.pointer (some ⟨b, 0, none⟩), .int .i64 0, .int .u8 x, .int .u64 t] w fun e w' => e = .returned (.int .i64 0) ∧ RT w' b { c0 with h := 1, wn := false, l := 65536, g := t, st := false } c1 c2 ∧ Keeps (· = b) w w' := by
 obtain ⟨k0, k1, k2, k3, k4, k5, k6, k7, k8, k9, kf, klt⟩ := H.f0
 rw [e1] at k1
 go_enter Tryz.func116, Tryz.ntmps116
 go_wp2_with fail
 all_goals
  go_region
 all_goals
  go_wp2_with fail
  go_ret
  exact ⟨rfl, by ((repeat' (first | (with_reducible refine RT.alloc ?_ _) | (with_reducible refine RT.drew ?_) | (with_reducible refine RT.drewN ?_ _))); unfold RT rct at H ⊢; simp only [heap_drew, heap_set_map, putObj_cells, H, Option.map_some, List.cons_append, List.nil_append, List.set_cons_succ, List.set_cons_zero, Bool.and_false, Bool.and_true, Bool.true_and, Bool.false_and, Bool.not_true, Bool.not_false, Bool.bne_true, Bool.bne_false]), by (repeat' (first | (with_reducible exact Keeps.refl _ _) | (with_reducible assumption) | (with_reducible refine Keeps.setOne ?_ _ _) | (with_reducible refine Keeps.alloc ?_ _) | (with_reducible refine Keeps.drew ?_) | (with_reducible refine Keeps.drewN ?_ _) | (refine Keeps.setCell ?_ (.inr (by simp)) _)))⟩
theorem rput1_first {w : World} {b : Nat} {c0 c1 c2 : Pit.Ct} {t : Int} (H : RT w b c0 c1 c2) (x : Int) (x0 : 0 ≤ x) (x1 : x < 256) (e1 : c1.h = 3) (e2 : c1.wn = false) :
    Calls Tryz.prog 116 #[.pointer (some ⟨b, 0, none⟩), .int .i64 1, .int .u8 x, .int .u64 t] w fun e w' => e = .returned (.int .i64 0) ∧ RT w' b c0 { c1 with h := 3, wn := true, f := x } c2 ∧ Keeps (· = b) w w' := by
 obtain ⟨k0, k1, k2, k3, k4, k5, k6, k7, k8, k9, kf, klt⟩ := H.f1
 rw [e1] at k1
 rw [e2] at k5
 go_enter Tryz.func116, Tryz.ntmps116
 go_wp2_with fail
 all_goals
  go_region
 all_goals
  go_wp2_with fail
  go_ret
  exact ⟨rfl, by ((repeat' (first | (with_reducible refine RT.alloc ?_ _) | (with_reducible refine RT.drew ?_) | (with_reducible refine RT.drewN ?_ _))); unfold RT rct at H ⊢; simp only [heap_drew, heap_set_map, putObj_cells, H, Option.map_some, List.cons_append, List.nil_append, List.set_cons_succ, List.set_cons_zero, Bool.and_false, Bool.and_true, Bool.true_and, Bool.false_and, Bool.not_true, Bool.not_false, Bool.bne_true, Bool.bne_false]), by (repeat' (first | (with_reducible exact Keeps.refl _ _) | (with_reducible assumption) | (with_reducible refine Keeps.setOne ?_ _ _) | (with_reducible refine Keeps.alloc ?_ _) | (with_reducible refine Keeps.drew ?_) | (with_reducible refine Keeps.drewN ?_ _) | (refine Keeps.setCell ?_ (.inr (by simp)) _)))⟩
theorem rput1_second {w : World} {b : Nat} {c0 c1 c2 : Pit.Ct} {t : Int} (H : RT w b c0 c1 c2) (x : Int) (x0 : 0 ≤ x) (x1 : x < 256) (f0 : 0 ≤ c1.f) (f1 : c1.f < 256) (e1 : c1.h = 3) (e2 : c1.wn = true) (hz : ((x * 256 + c1.f) == 0) = false) :
    Calls Tryz.prog 116 #[.pointer (some ⟨b, 0, none⟩), .int .i64 1, .int .u8 x, .int .u64 t] w fun e w' => e = .returned (.int .i64 0) ∧ RT w' b c0 { c1 with h := 3, wn := false, l := (x * 256 + c1.f), g := t, st := false } c2 ∧ Keeps (· = b) w w' := by
 obtain ⟨k0, k1, k2, k3, k4, k5, k6, k7, k8, k9, kf, klt⟩ := H.f1
 rw [e1] at k1
 rw [e2] at k5
 go_enter Tryz.func116, Tryz.ntmps116
 go_wp2_with fail
 all_goals
  go_region
 all_goals
  go_wp2_with fail
  go_ret
  exact ⟨rfl, by ((repeat' (first | (with_reducible refine RT.alloc ?_ _) | (with_reducible refine RT.drew ?_) | (with_reducible refine RT.drewN ?_ _))); unfold RT rct at H ⊢; simp only [heap_drew, heap_set_map, putObj_cells, H, Option.map_some, List.cons_append, List.nil_append, List.set_cons_succ, List.set_cons_zero, Bool.and_false, Bool.and_true, Bool.true_and, Bool.false_and, Bool.not_true, Bool.not_false, Bool.bne_true, Bool.bne_false]), by (repeat' (first | (with_reducible exact Keeps.refl _ _) | (with_reducible assumption) | (with_reducible refine Keeps.setOne ?_ _ _) | (with_reducible refine Keeps.alloc ?_ _) | (with_reducible refine Keeps.drew ?_) | (with_reducible refine Keeps.drewN ?_ _) | (refine Keeps.setCell ?_ (.inr (by simp)) _)))⟩
theorem rput1_second0 {w : World} {b : Nat} {c0 c1 c2 : Pit.Ct} {t : Int} (H : RT w b c0 c1 c2) (x : Int) (x0 : 0 ≤ x) (x1 : x < 256) (f0 : 0 ≤ c1.f) (f1 : c1.f < 256) (e1 : c1.h = 3) (e2 : c1.wn = true) (hz : ((x * 256 + c1.f) == 0) = true) :
    Calls Tryz.prog 116 #[.pointer (some ⟨b, 0, none⟩), .int .i64 1, .int .u8 x, .int .u64 t] w fun e w' => e = .returned (.int .i64 0) ∧ RT w' b c0 { c1 with h := 3, wn := false, l := 65536, g := t, st := false } c2 ∧ Keeps (· = b) w w' := by
 obtain ⟨k0, k1, k2, k3, k4, k5, k6, k7, k8, k9, kf, klt⟩ := H.f1
 rw [e1] at k1
 rw [e2] at k5
 go_enter Tryz.func116, Tryz.ntmps116
 go_wp2_with fail
 all_goals
  go_region
 all_goals
  go_wp2_with fail
  go_ret
  exact ⟨rfl, by ((repeat' (first | (with_reducible refine RT.alloc ?_ _) | (with_reducible refine RT.drew ?_) | (with_reducible refine RT.drewN ?_ _))); unfold RT rct at H ⊢; simp only [heap_drew, heap_set_map, putObj_cells, H, Option.map_some, List.cons_append, List.nil_append, List.set_cons_succ, List.set_cons_zero, Bool.and_false, Bool.and_true, Bool.true_and, Bool.false_and, Bool.not_true, Bool.not_false, Bool.bne_true, Bool.bne_false]), by (repeat' (first | (with_reducible exact Keeps.refl _ _) | (with_reducible assumption) | (with_reducible refine Keeps.setOne ?_ _ _) | (with_reducible refine Keeps.alloc ?_ _) | (with_reducible refine Keeps.drew ?_) | (with_reducible refine Keeps.drewN ?_ _) | (refine Keeps.setCell ?_ (.inr (by simp)) _)))⟩
theorem rput1_two {w : World} {b : Nat} {c0 c1 c2 : Pit.Ct} {t : Int} (H : RT w b c0 c1 c2) (x : Int) (x0 : 0 ≤ x) (x1 : x < 256) (f0 : 0 ≤ c1.f) (f1 : c1.f < 256) (e1 : c1.h = 2) (hz : ((x * 256) == 0) = false) :
    Calls Tryz.prog 116 #[.pointer (some ⟨b, 0, none⟩), .int .i64 1, .int .u8 x, .int .u64 t] w fun e w' => e = .returned (.int .i64 0) ∧ RT w' b c0 { c1 with h := 2, wn := false, l := (x * 256), g := t, st := false } c2 ∧ Keeps (· = b) w w' := by
 obtain ⟨k0, k1, k2, k3, k4, k5, k6, k7, k8, k9, kf, klt⟩ := H.f1
 rw [e1] at k1
 go_enter Tryz.func116, Tryz.ntmps116
 go_wp2_with fail
 all_goals
  go_region
 all_goals
  go_wp2_with fail
  go_ret
  exact ⟨rfl, by ((repeat' (first | (with_reducible refine RT.alloc ?_ _) | (with_reducible refine RT.drew ?_) | (with_reducible refine RT.drewN ?_ _))); unfold RT rct at H ⊢; simp only [heap_drew, heap_set_map, putObj_cells, H, Option.map_some, List.cons_append, List.nil_append, List.set_cons_succ, List.set_cons_zero, Bool.and_false, Bool.and_true, Bool.true_and, Bool.false_and, Bool.not_true, Bool.not_false, Bool.bne_true, Bool.bne_false]), by (repeat' (first | (with_reducible exact Keeps.refl _ _) | (with_reducible assumption) | (with_reducible refine Keeps.setOne ?_ _ _) | (with_reducible refine Keeps.alloc ?_ _) | (with_reducible refine Keeps.drew ?_) | (with_reducible refine Keeps.drewN ?_ _) | (refine Keeps.setCell ?_ (.inr (by simp)) _)))⟩
theorem rput1_two0 {w : World} {b : Nat} {c0 c1 c2 : Pit.Ct} {t : Int} (H : RT w b c0 c1 c2) (x : Int) (x0 : 0 ≤ x) (x1 : x < 256) (f0 : 0 ≤ c1.f) (f1 : c1.f < 256) (e1 : c1.h = 2) (hz : ((x * 256) == 0) = true) :
    Calls Tryz.prog 116 #[.pointer (some ⟨b, 0, none⟩), .int .i64 1, .int .u8 x, .int .u64 t] w fun e w' => e = .returned (.int .i64 0) ∧ RT w' b c0 { c1 with h := 2, wn := false, l := 65536, g := t, st := false } c2 ∧ Keeps (· = b) w w' := by
 obtain ⟨k0, k1, k2, k3, k4, k5, k6, k7, k8, k9, kf, klt⟩ := H.f1
 rw [e1] at k1
 go_enter Tryz.func116, Tryz.ntmps116
 go_wp2_with fail
 all_goals
  go_region
 all_goals
  go_wp2_with fail
  go_ret
  exact ⟨rfl, by ((repeat' (first | (with_reducible refine RT.alloc ?_ _) | (with_reducible refine RT.drew ?_) | (with_reducible refine RT.drewN ?_ _))); unfold RT rct at H ⊢; simp only [heap_drew, heap_set_map, putObj_cells, H, Option.map_some, List.cons_append, List.nil_append, List.set_cons_succ, List.set_cons_zero, Bool.and_false, Bool.and_true, Bool.true_and, Bool.false_and, Bool.not_true, Bool.not_false, Bool.bne_true, Bool.bne_false]), by (repeat' (first | (with_reducible exact Keeps.refl _ _) | (with_reducible assumption) | (with_reducible refine Keeps.setOne ?_ _ _) | (with_reducible refine Keeps.alloc ?_ _) | (with_reducible refine Keeps.drew ?_) | (with_reducible refine Keeps.drewN ?_ _) | (refine Keeps.setCell ?_ (.inr (by simp)) _)))⟩
theorem rput1_one {w : World} {b : Nat} {c0 c1 c2 : Pit.Ct} {t : Int} (H : RT w b c0 c1 c2) (x : Int) (x0 : 0 ≤ x) (x1 : x < 256) (f0 : 0 ≤ c1.f) (f1 : c1.f < 256) (e1 : c1.h = 1) (hz : (x == 0) = false) :
    Calls Tryz.prog 116 #[.pointer (some ⟨b, 0, none⟩), .int .i64 1, .int .u8 x, .int .u64 t] w fun e w' => e = .returned (.int .i64 0) ∧ RT w' b c0 { c1 with h := 1, wn := false, l := x, g := t, st := false } c2 ∧ Keeps (· = b) w w' := by
 obtain ⟨k0, k1, k2, k3, k4, k5, k6, k7, k8, k9, kf, klt⟩ := H.f1
 rw [e1] at k1
 go_enter Tryz.func116, Tryz.ntmps116
 go_wp2_with fail
 all_goals
  go_region
 all_goals
  go_wp2_with fail
  go_ret
  exact ⟨rfl, by ((repeat' (first | (with_reducible refine RT.alloc ?_ _) | (with_reducible refine RT.drew ?_) | (with_reducible refine RT.drewN ?_ _))); unfold RT rct at H ⊢; simp only [heap_drew, heap_set_map, putObj_cells, H, Option.map_some, List.cons_append, List.nil_append, List.set_cons_succ, List.set_cons_zero, Bool.and_false, Bool.and_true, Bool.true_and, Bool.false_and, Bool.not_true, Bool.not_false, Bool.bne_true, Bool.bne_false]), by (repeat' (first | (with_reducible exact Keeps.refl _ _) | (with_reducible assumption) | (with_reducible refine Keeps.setOne ?_ _ _) | (with_reducible refine Keeps.alloc ?_ _) | (with_reducible refine Keeps.drew ?_) | (with_reducible refine Keeps.drewN ?_ _) | (refine Keeps.setCell ?_ (.inr (by simp)) _)))⟩
theorem rput1_one0 {w : World} {b : Nat} {c0 c1 c2 : Pit.Ct} {t : Int} (H : RT w b c0 c1 c2) (x : Int) (x0 : 0 ≤ x) (x1 : x < 256) (f0 : 0 ≤ c1.f) (f1 : c1.f < 256) (e1 : c1.h = 1) (hz : (x == 0) = true) :
    Calls Tryz.prog 116 #[.pointer (some ⟨b, 0, none⟩), .int .i64 1, .int .u8 x, .int .u64 t] w fun e w' => e = .returned (.int .i64 0) ∧ RT w' b c0 { c1 with h := 1, wn := false, l := 65536, g := t, st := false } c2 ∧ Keeps (· = b) w w' := by
 obtain ⟨k0, k1, k2, k3, k4, k5, k6, k7, k8, k9, kf, klt⟩ := H.f1
 rw [e1] at k1
 go_enter Tryz.func116, Tryz.ntmps116
 go_wp2_with fail
 all_goals
  go_region
 all_goals
  go_wp2_with fail
  go_ret
  exact ⟨rfl, by ((repeat' (first | (with_reducible refine RT.alloc ?_ _) | (with_reducible refine RT.drew ?_) | (with_reducible refine RT.drewN ?_ _))); unfold RT rct at H ⊢; simp only [heap_drew, heap_set_map, putObj_cells, H, Option.map_some, List.cons_append, List.nil_append, List.set_cons_succ, List.set_cons_zero, Bool.and_false, Bool.and_true, Bool.true_and, Bool.false_and, Bool.not_true, Bool.not_false, Bool.bne_true, Bool.bne_false]), by (repeat' (first | (with_reducible exact Keeps.refl _ _) | (with_reducible assumption) | (with_reducible refine Keeps.setOne ?_ _ _) | (with_reducible refine Keeps.alloc ?_ _) | (with_reducible refine Keeps.drew ?_) | (with_reducible refine Keeps.drewN ?_ _) | (refine Keeps.setCell ?_ (.inr (by simp)) _)))⟩
theorem rput2_first {w : World} {b : Nat} {c0 c1 c2 : Pit.Ct} {t : Int} (H : RT w b c0 c1 c2) (x : Int) (x0 : 0 ≤ x) (x1 : x < 256) (e1 : c2.h = 3) (e2 : c2.wn = false) :
    Calls Tryz.prog 116 #[.pointer (some ⟨b, 0, none⟩), .int .i64 2, .int .u8 x, .int .u64 t] w fun e w' => e = .returned (.int .i64 0) ∧ RT w' b c0 c1 { c2 with h := 3, wn := true, f := x } ∧ Keeps (· = b) w w' := by
 obtain ⟨k0, k1, k2, k3, k4, k5, k6, k7, k8, k9, kf, klt⟩ := H.f2
 rw [e1] at k1
 rw [e2] at k5
 go_enter Tryz.func116, Tryz.ntmps116
 go_wp2_with fail
 all_goals
  go_region
 all_goals
  go_wp2_with fail
  go_ret
  exact ⟨rfl, by ((repeat' (first | (with_reducible refine RT.alloc ?_ _) | (with_reducible refine RT.drew ?_) | (with_reducible refine RT.drewN ?_ _))); unfold RT rct at H ⊢; simp only [heap_drew, heap_set_map, putObj_cells, H, Option.map_some, List.cons_append, List.nil_append, List.set_cons_succ, List.set_cons_zero, Bool.and_false, Bool.and_true, Bool.true_and, Bool.false_and, Bool.not_true, Bool.not_false, Bool.bne_true, Bool.bne_false]), by (repeat' (first | (with_reducible exact Keeps.refl _ _) | (with_reducible assumption) | (with_reducible refine Keeps.setOne ?_ _ _) | (with_reducible refine Keeps.alloc ?_ _) | (with_reducible refine Keeps.drew ?_) | (with_reducible refine Keeps.drewN ?_ _) | (refine Keeps.setCell ?_ (.inr (by simp)) _)))⟩
theorem rput2_second {w : World} {b : Nat} {c0 c1 c2 : Pit.Ct} {t : Int} (H : RT w b c0 c1 c2) (x : Int) (x0 : 0 ≤ x) (x1 : x < 256) (f0 : 0 ≤ c2.f) (f1 : c2.f < 256) (e1 : c2.h = 3) (e2 : c2.wn = true) (hz : ((x * 256 + c2.f) == 0) = false) :
    Calls Tryz.prog 116 #[.pointer (some ⟨b, 0, none⟩), .int .i64 2, .int .u8 x, .int .u64 t] w fun e w' => e = .returned (.int .i64 0) ∧ RT w' b c0 c1 { c2 with h := 3, wn := false, l := (x * 256 + c2.f), g := t, st := false } ∧ Keeps (· = b) w w' := by
 obtain ⟨k0, k1, k2, k3, k4, k5, k6, k7, k8, k9, kf, klt⟩ := H.f2
 rw [e1] at k1
 rw [e2] at k5
 go_enter Tryz.func116, Tryz.ntmps116
 go_wp2_with fail
 all_goals
  go_region
 all_goals
  go_wp2_with fail
  go_ret
  exact ⟨rfl, by ((repeat' (first | (with_reducible refine RT.alloc ?_ _) | (with_reducible refine RT.drew ?_) | (with_reducible refine RT.drewN ?_ _))); unfold RT rct at H ⊢; simp only [heap_drew, heap_set_map, putObj_cells, H, Option.map_some, List.cons_append, List.nil_append, List.set_cons_succ, List.set_cons_zero, Bool.and_false, Bool.and_true, Bool.true_and, Bool.false_and, Bool.not_true, Bool.not_false, Bool.bne_true, Bool.bne_false]), by (repeat' (first | (with_reducible exact Keeps.refl _ _) | (with_reducible assumption) | (with_reducible refine Keeps.setOne ?_ _ _) | (with_reducible refine Keeps.alloc ?_ _) | (with_reducible refine Keeps.drew ?_) | (with_reducible refine Keeps.drewN ?_ _) | (refine Keeps.setCell ?_ (.inr (by simp)) _)))⟩
theorem rput2_second0 {w : World} {b : Nat} {c0 c1 c2 : Pit.Ct} {t : Int} (H : RT w b c0 c1 c2) (x : Int) (x0 : 0 ≤ x) (x1 : x < 256) (f0 : 0 ≤ c2.f) (f1 : c2.f < 256) (e1 : c2.h = 3) (e2 : c2.wn = true) (hz : ((x * 256 + c2.f) == 0) = true) :
    Calls Tryz.prog 116 #[.pointer (some ⟨b, 0, none⟩), .int .i64 2, .int .u8 x, .int .u64 t] w fun e w' => e = .returned (.int .i64 0) ∧ RT w' b c0 c1 { c2 with h := 3, wn := false, l := 65536, g := t, st := false } ∧ Keeps (· = b) w w' := by
 obtain ⟨k0, k1, k2, k3, k4, k5, k6, k7, k8, k9, kf, klt⟩ := H.f2
 rw [e1] at k1
 rw [e2] at k5
 go_enter Tryz.func116, Tryz.ntmps116
 go_wp2_with fail
 all_goals
  go_region
 all_goals
  go_wp2_with fail
  go_ret
  exact ⟨rfl, by ((repeat' (first | (with_reducible refine RT.alloc ?_ _) | (with_reducible refine RT.drew ?_) | (with_reducible refine RT.drewN ?_ _))); unfold RT rct at H ⊢; simp only [heap_drew, heap_set_map, putObj_cells, H, Option.map_some, List.cons_append, List.nil_append, List.set_cons_succ, List.set_cons_zero, Bool.and_false, Bool.and_true, Bool.true_and, Bool.false_and, Bool.not_true, Bool.not_false, Bool.bne_true, Bool.bne_false]), by (repeat' (first | (with_reducible exact Keeps.refl _ _) | (with_reducible assumption) | (with_reducible refine Keeps.setOne ?_ _ _) | (with_reducible refine Keeps.alloc ?_ _) | (with_reducible refine Keeps.drew ?_) | (with_reducible refine Keeps.drewN ?_ _) | (refine Keeps.setCell ?_ (.inr (by simp)) _)))⟩
theorem rput2_two {w : World} {b : Nat} {c0 c1 c2 : Pit.Ct} {t : Int} (H : RT w b c0 c1 c2) (x : Int) (x0 : 0 ≤ x) (x1 : x < 256) (f0 : 0 ≤ c2.f) (f1 : c2.f < 256) (e1 : c2.h = 2) (hz : ((x * 256) == 0) = false) :
    Calls Tryz.prog 116 #[.pointer (some ⟨b, 0, none⟩), .int .i64 2, .int .u8 x, .int .u64 t] w fun e w' => e = .returned (.int .i64 0) ∧ RT w' b c0 c1 { c2 with h := 2, wn := false, l := (x * 256), g := t, st := false } ∧ Keeps (· = b) w w' := by
 obtain ⟨k0, k1, k2, k3, k4, k5, k6, k7, k8, k9, kf, klt⟩ := H.f2
 rw [e1] at k1
 go_enter Tryz.func116, Tryz.ntmps116
 go_wp2_with fail
 all_goals
  go_region
 all_goals
  go_wp2_with fail
  go_ret
  exact ⟨rfl, by ((repeat' (first | (with_reducible refine RT.alloc ?_ _) | (with_reducible refine RT.drew ?_) | (with_reducible refine RT.drewN ?_ _))); unfold RT rct at H ⊢; simp only [heap_drew, heap_set_map, putObj_cells, H, Option.map_some, List.cons_append, List.nil_append, List.set_cons_succ, List.set_cons_zero, Bool.and_false, Bool.and_true, Bool.true_and, Bool.false_and, Bool.not_true, Bool.not_false, Bool.bne_true, Bool.bne_false]), by (repeat' (first | (with_reducible exact Keeps.refl _ _) | (with_reducible assumption) | (with_reducible refine Keeps.setOne ?_ _ _) | (with_reducible refine Keeps.alloc ?_ _) | (with_reducible refine Keeps.drew ?_) | (with_reducible refine Keeps.drewN ?_ _) | (refine Keeps.setCell ?_ (.inr (by simp)) _)))⟩
theorem rput2_two0 {w : World} {b : Nat} {c0 c1 c2 : Pit.Ct} {t : Int} (H : RT w b c0 c1 c2) (x : Int) (x0 : 0 ≤ x) (x1 : x < 256) (f0 : 0 ≤ c2.f) (f1 : c2.f < 256) (e1 : c2.h = 2) (hz : ((x * 256) == 0) = true) :
    Calls Tryz.prog 116 #[.pointer (some ⟨b, 0, none⟩), .int .i64 2, .int .u8 x, .int .u64 t] w fun e w' => e = .returned (.int .i64 0) ∧ RT w' b c0 c1 { c2 with h := 2, wn := false, l := 65536, g := t, st := false } ∧ Keeps (· = b) w w' := by
 obtain ⟨k0, k1, k2, k3, k4, k5, k6, k7, k8, k9, kf, klt⟩ := H.f2
 rw [e1] at k1
 go_enter Tryz.func116, Tryz.ntmps116
 go_wp2_with fail
 all_goals
  go_region
 all_goals
  go_wp2_with fail
  go_ret
  exact ⟨rfl, by ((repeat' (first | (with_reducible refine RT.alloc ?_ _) | (with_reducible refine RT.drew ?_) | (with_reducible refine RT.drewN ?_ _))); unfold RT rct at H ⊢; simp only [heap_drew, heap_set_map, putObj_cells, H, Option.map_some, List.cons_append, List.nil_append, List.set_cons_succ, List.set_cons_zero, Bool.and_false, Bool.and_true, Bool.true_and, Bool.false_and, Bool.not_true, Bool.not_false, Bool.bne_true, Bool.bne_false]), by (repeat' (first | (with_reducible exact Keeps.refl _ _) | (with_reducible assumption) | (with_reducible refine Keeps.setOne ?_ _ _) | (with_reducible refine Keeps.alloc ?_ _) | (with_reducible refine Keeps.drew ?_) | (with_reducible refine Keeps.drewN ?_ _) | (refine Keeps.setCell ?_ (.inr (by simp)) _)))⟩
theorem rput2_one {w : World} {b : Nat} {c0 c1 c2 : Pit.Ct} {t : Int} (H : RT w b c0 c1 c2) (x : Int) (x0 : 0 ≤ x) (x1 : x < 256) (f0 : 0 ≤ c2.f) (f1 : c2.f < 256) (e1 : c2.h = 1) (hz : (x == 0) = false) :
    Calls Tryz.prog 116 #[.pointer (some ⟨b, 0, none⟩), .int .i64 2, .int .u8 x, .int .u64 t] w fun e w' => e = .returned (.int .i64 0) ∧ RT w' b c0 c1 { c2 with h := 1, wn := false, l := x, g := t, st := false } ∧ Keeps (· = b) w w' := by
 obtain ⟨k0, k1, k2, k3, k4, k5, k6, k7, k8, k9, kf, klt⟩ := H.f2
 rw [e1] at k1
 go_enter Tryz.func116, Tryz.ntmps116
 go_wp2_with fail
 all_goals
  go_region
 all_goals
  go_wp2_with fail
  go_ret
  exact ⟨rfl, by ((repeat' (first | (with_reducible refine RT.alloc ?_ _) | (with_reducible refine RT.drew ?_) | (with_reducible refine RT.drewN ?_ _))); unfold RT rct at H ⊢; simp only [heap_drew, heap_set_map, putObj_cells, H, Option.map_some, List.cons_append, List.nil_append, List.set_cons_succ, List.set_cons_zero, Bool.and_false, Bool.and_true, Bool.true_and, Bool.false_and, Bool.not_true, Bool.not_false, Bool.bne_true, Bool.bne_false]), by (repeat' (first | (with_reducible exact Keeps.refl _ _) | (with_reducible assumption) | (with_reducible refine Keeps.setOne ?_ _ _) | (with_reducible refine Keeps.alloc ?_ _) | (with_reducible refine Keeps.drew ?_) | (with_reducible refine Keeps.drewN ?_ _) | (refine Keeps.setCell ?_ (.inr (by simp)) _)))⟩
theorem rput2_one0 {w : World} {b : Nat} {c0 c1 c2 : Pit.Ct} {t : Int} (H : RT w b c0 c1 c2) (x : Int) (x0 : 0 ≤ x) (x1 : x < 256) (f0 : 0 ≤ c2.f) (f1 : c2.f < 256) (e1 : c2.h = 1) (hz : (x == 0) = true) :
    Calls Tryz.prog 116 #[.pointer (some ⟨b, 0, none⟩), .int .i64 2, .int .u8 x, .int .u64 t] w fun e w' => e = .returned (.int .i64 0) ∧ RT w' b c0 c1 { c2 with h := 1, wn := false, l := 65536, g := t, st := false } ∧ Keeps (· = b) w w' := by
 obtain ⟨k0, k1, k2, k3, k4, k5, k6, k7, k8, k9, kf, klt⟩ := H.f2
 rw [e1] at k1
 go_enter Tryz.func116, Tryz.ntmps116
 go_wp2_with fail
 all_goals
  go_region
 all_goals
  go_wp2_with fail
  go_ret
  exact ⟨rfl, by ((repeat' (first | (with_reducible refine RT.alloc ?_ _) | (with_reducible refine RT.drew ?_) | (with_reducible refine RT.drewN ?_ _))); unfold RT rct at H ⊢; simp only [heap_drew, heap_set_map, putObj_cells, H, Option.map_some, List.cons_append, List.nil_append, List.set_cons_succ, List.set_cons_zero, Bool.and_false, Bool.and_true, Bool.true_and, Bool.false_and, Bool.not_true, Bool.not_false, Bool.bne_true, Bool.bne_false]), by (repeat' (first | (with_reducible exact Keeps.refl _ _) | (with_reducible assumption) | (with_reducible refine Keeps.setOne ?_ _ _) | (with_reducible refine Keeps.alloc ?_ _) | (with_reducible refine Keeps.drew ?_) | (with_reducible refine Keeps.drewN ?_ _) | (refine Keeps.setCell ?_ (.inr (by simp)) _)))⟩
theorem rput_ct0 {w : World} {b : Nat} {c0 c1 c2 : Pit.Ct} {t : Int} (H : RT w b c0 c1 c2) (ok : c0.ok t) (x : Int) (x0 : 0 ≤ x) (x1 : x < 256) :
    Calls Tryz.prog 116 #[.pointer (some ⟨b, 0, none⟩), .int .i64 0, .int .u8 x, .int .u64 t] w fun e w' => e = .returned (.int .i64 0) ∧ RT w' b (c0.put x t) c1 c2 ∧ Keeps (· = b) w w' := by
 have hh := ok.h
 have hf := ok.f
 have key : ∀ (n : Int), c0.h = n → ∀ d : Pit.Ct, d.h = c0.h → ({ d with h := n } : Pit.Ct) = d := fun n e d e2 => by rw [← e, ← e2]
 unfold Pit.Ct.put
 by_cases h1 : c0.h = 3 ∧ c0.wn = false
 ·rw [if_pos h1]
  have h := rput0_first (t := t) H x x0 x1 h1.1 h1.2
  rw [key 3 h1.1 { c0 with wn := true, f := x } rfl] at h
  exact h
 ·rw [if_neg h1]
  by_cases h3 : c0.h = 3
  ·rw [if_pos h3]
   have hw : c0.wn = true := by
    cases h : c0.wn
    ·exact absurd ⟨h3, h⟩ h1
    ·rfl
   unfold Pit.Ct.full
   by_cases hz : x * 256 + c0.f = 0
   ·rw [if_pos hz]
    have h := rput0_second0 (t := t) H x x0 x1 hf.1 hf.2 h3 hw (by simpa using hz)
    rw [key 3 h3 { c0 with wn := false, l := 65536, g := t, st := false } rfl] at h
    exact h
   ·rw [if_neg hz]
    have h := rput0_second (t := t) H x x0 x1 hf.1 hf.2 h3 hw (by simpa using hz)
    rw [key 3 h3 { c0 with wn := false, l := x * 256 + c0.f, g := t, st := false } rfl] at h
    exact h
  ·rw [if_neg h3]
   by_cases h2 : c0.h = 2
   ·rw [if_pos h2]
    unfold Pit.Ct.full
    by_cases hz : x * 256 = 0
    ·rw [if_pos hz]
     have h := rput0_two0 (t := t) H x x0 x1 hf.1 hf.2 h2 (by rw [hz]; rfl)
     rw [key 2 h2 { c0 with wn := false, l := 65536, g := t, st := false } rfl] at h
     exact h
    ·rw [if_neg hz]
     have h := rput0_two (t := t) H x x0 x1 hf.1 hf.2 h2 (by rw [beq_eq_false_iff_ne]; exact hz)
     rw [key 2 h2 { c0 with wn := false, l := x * 256, g := t, st := false } rfl] at h
     exact h
   ·rw [if_neg h2]
    have h4 : c0.h = 1 := by omega
    unfold Pit.Ct.full
    by_cases hz : x = 0
    ·rw [if_pos hz]
     have h := rput0_one0 (t := t) H x x0 x1 hf.1 hf.2 h4 (by simpa using hz)
     rw [key 1 h4 { c0 with wn := false, l := 65536, g := t, st := false } rfl] at h
     exact h
    ·rw [if_neg hz]
     have h := rput0_one (t := t) H x x0 x1 hf.1 hf.2 h4 (by simpa using hz)
     rw [key 1 h4 { c0 with wn := false, l := x, g := t, st := false } rfl] at h
     exact h
theorem rput_ct1 {w : World} {b : Nat} {c0 c1 c2 : Pit.Ct} {t : Int} (H : RT w b c0 c1 c2) (ok : c1.ok t) (x : Int) (x0 : 0 ≤ x) (x1 : x < 256) :
    Calls Tryz.prog 116 #[.pointer (some ⟨b, 0, none⟩), .int .i64 1, .int .u8 x, .int .u64 t] w fun e w' => e = .returned (.int .i64 0) ∧ RT w' b c0 (c1.put x t) c2 ∧ Keeps (· = b) w w' := by
 have hh := ok.h
 have hf := ok.f
 have key : ∀ (n : Int), c1.h = n → ∀ d : Pit.Ct, d.h = c1.h → ({ d with h := n } : Pit.Ct) = d := fun n e d e2 => by rw [← e, ← e2]
 unfold Pit.Ct.put
 by_cases h1 : c1.h = 3 ∧ c1.wn = false
 ·rw [if_pos h1]
  have h := rput1_first (t := t) H x x0 x1 h1.1 h1.2
  rw [key 3 h1.1 { c1 with wn := true, f := x } rfl] at h
  exact h
 ·rw [if_neg h1]
  by_cases h3 : c1.h = 3
  ·rw [if_pos h3]
   have hw : c1.wn = true := by
    cases h : c1.wn
    ·exact absurd ⟨h3, h⟩ h1
    ·rfl
   unfold Pit.Ct.full
   by_cases hz : x * 256 + c1.f = 0
   ·rw [if_pos hz]
    have h := rput1_second0 (t := t) H x x0 x1 hf.1 hf.2 h3 hw (by simpa using hz)
    rw [key 3 h3 { c1 with wn := false, l := 65536, g := t, st := false } rfl] at h
    exact h
   ·rw [if_neg hz]
    have h := rput1_second (t := t) H x x0 x1 hf.1 hf.2 h3 hw (by simpa using hz)
    rw [key 3 h3 { c1 with wn := false, l := x * 256 + c1.f, g := t, st := false } rfl] at h
    exact h
  ·rw [if_neg h3]
   by_cases h2 : c1.h = 2
   ·rw [if_pos h2]
    unfold Pit.Ct.full
    by_cases hz : x * 256 = 0
    ·rw [if_pos hz]
     have h := rput1_two0 (t := t) H x x0 x1 hf.1 hf.2 h2 (by rw [hz]; rfl)
     rw [key 2 h2 { c1 with wn := false, l := 65536, g := t, st := false } rfl] at h
     exact h
    ·rw [if_neg hz]
     have h := rput1_two (t := t) H x x0 x1 hf.1 hf.2 h2 (by rw [beq_eq_false_iff_ne]; exact hz)
     rw [key 2 h2 { c1 with wn := false, l := x * 256, g := t, st := false } rfl] at h
     exact h
   ·rw [if_neg h2]
    have h4 : c1.h = 1 := by omega
    unfold Pit.Ct.full
    by_cases hz : x = 0
    ·rw [if_pos hz]
     have h := rput1_one0 (t := t) H x x0 x1 hf.1 hf.2 h4 (by simpa using hz)
     rw [key 1 h4 { c1 with wn := false, l := 65536, g := t, st := false } rfl] at h
     exact h
    ·rw [if_neg hz]
     have h := rput1_one (t := t) H x x0 x1 hf.1 hf.2 h4 (by simpa using hz)
     rw [key 1 h4 { c1 with wn := false, l := x, g := t, st := false } rfl] at h
     exact h
theorem rput_ct2 {w : World} {b : Nat} {c0 c1 c2 : Pit.Ct} {t : Int} (H : RT w b c0 c1 c2) (ok : c2.ok t) (x : Int) (x0 : 0 ≤ x) (x1 : x < 256) :
    Calls Tryz.prog 116 #[.pointer (some ⟨b, 0, none⟩), .int .i64 2, .int .u8 x, .int .u64 t] w fun e w' => e = .returned (.int .i64 0) ∧ RT w' b c0 c1 (c2.put x t) ∧ Keeps (· = b) w w' := by
 have hh := ok.h
 have hf := ok.f
 have key : ∀ (n : Int), c2.h = n → ∀ d : Pit.Ct, d.h = c2.h → ({ d with h := n } : Pit.Ct) = d := fun n e d e2 => by rw [← e, ← e2]
 unfold Pit.Ct.put
 by_cases h1 : c2.h = 3 ∧ c2.wn = false
 ·rw [if_pos h1]
  have h := rput2_first (t := t) H x x0 x1 h1.1 h1.2
  rw [key 3 h1.1 { c2 with wn := true, f := x } rfl] at h
  exact h
 ·rw [if_neg h1]
  by_cases h3 : c2.h = 3
  ·rw [if_pos h3]
   have hw : c2.wn = true := by
    cases h : c2.wn
    ·exact absurd ⟨h3, h⟩ h1
    ·rfl
   unfold Pit.Ct.full
   by_cases hz : x * 256 + c2.f = 0
   ·rw [if_pos hz]
    have h := rput2_second0 (t := t) H x x0 x1 hf.1 hf.2 h3 hw (by simpa using hz)
    rw [key 3 h3 { c2 with wn := false, l := 65536, g := t, st := false } rfl] at h
    exact h
   ·rw [if_neg hz]
    have h := rput2_second (t := t) H x x0 x1 hf.1 hf.2 h3 hw (by simpa using hz)
    rw [key 3 h3 { c2 with wn := false, l := x * 256 + c2.f, g := t, st := false } rfl] at h
    exact h
  ·rw [if_neg h3]
   by_cases h2 : c2.h = 2
   ·rw [if_pos h2]
    unfold Pit.Ct.full
    by_cases hz : x * 256 = 0
    ·rw [if_pos hz]
     have h := rput2_two0 (t := t) H x x0 x1 hf.1 hf.2 h2 (by rw [hz]; rfl)
     rw [key 2 h2 { c2 with wn := false, l := 65536, g := t, st := false } rfl] at h
     exact h
    ·rw [if_neg hz]
     have h := rput2_two (t := t) H x x0 x1 hf.1 hf.2 h2 (by rw [beq_eq_false_iff_ne]; exact hz)
     rw [key 2 h2 { c2 with wn := false, l := x * 256, g := t, st := false } rfl] at h
     exact h
   ·rw [if_neg h2]
    have h4 : c2.h = 1 := by omega
    unfold Pit.Ct.full
    by_cases hz : x = 0
    ·rw [if_pos hz]
     have h := rput2_one0 (t := t) H x x0 x1 hf.1 hf.2 h4 (by simpa using hz)
     rw [key 1 h4 { c2 with wn := false, l := 65536, g := t, st := false } rfl] at h
     exact h
    ·rw [if_neg hz]
     have h := rput2_one (t := t) H x x0 x1 hf.1 hf.2 h4 (by simpa using hz)
     rw [key 1 h4 { c2 with wn := false, l := x, g := t, st := false } rfl] at h
     exact h
theorem rputc_ct0 {w : World} {b : Nat} {c0 c1 c2 : Pit.Ct} {t : Int} (H : RT w b c0 c1 c2) (ok : c0.ok t) (ht : t < 18446744073709551616) (x : Int) (x0 : 0 ≤ x) (x1 : x < 256) (e0 : x / 64 = 0) :
    Calls Tryz.prog 116 #[.pointer (some ⟨b, 0, none⟩), .int .i64 3, .int .u8 x, .int .u64 t] w fun e w' => e = .returned (.int .i64 0) ∧ RT w' b (c0.cmd x t) c1 c2 ∧ Keeps (· = b) w w' := by
 have E0 := Lib.hid e0
 have HC := Lib.hid (rcmd_ct0 H ok ht x x0 x1 e0)
 clear e0 ok ht
 go_enter Tryz.func116, Tryz.ntmps116
 go_wp2_with fail
 refine HC.out.mono ?_
 rintro e w1 ⟨rfl, H1, hK⟩
 go_wp2_with fail
 go_ret
 exact ⟨rfl, H1, hK⟩
theorem rputc_ct1 {w : World} {b : Nat} {c0 c1 c2 : Pit.Ct} {t : Int} (H : RT w b c0 c1 c2) (ok : c1.ok t) (ht : t < 18446744073709551616) (x : Int) (x0 : 0 ≤ x) (x1 : x < 256) (e0 : x / 64 = 1) :
    Calls Tryz.prog 116 #[.pointer (some ⟨b, 0, none⟩), .int .i64 3, .int .u8 x, .int .u64 t] w fun e w' => e = .returned (.int .i64 0) ∧ RT w' b c0 (c1.cmd x t) c2 ∧ Keeps (· = b) w w' := by
 have E0 := Lib.hid e0
 have HC := Lib.hid (rcmd_ct1 H ok ht x x0 x1 e0)
 clear e0 ok ht
 go_enter Tryz.func116, Tryz.ntmps116
 go_wp2_with fail
 refine HC.out.mono ?_
 rintro e w1 ⟨rfl, H1, hK⟩
 go_wp2_with fail
 go_ret
 exact ⟨rfl, H1, hK⟩
theorem rputc_ct2 {w : World} {b : Nat} {c0 c1 c2 : Pit.Ct} {t : Int} (H : RT w b c0 c1 c2) (ok : c2.ok t) (ht : t < 18446744073709551616) (x : Int) (x0 : 0 ≤ x) (x1 : x < 256) (e0 : x / 64 = 2) :
    Calls Tryz.prog 116 #[.pointer (some ⟨b, 0, none⟩), .int .i64 3, .int .u8 x, .int .u64 t] w fun e w' => e = .returned (.int .i64 0) ∧ RT w' b c0 c1 (c2.cmd x t) ∧ Keeps (· = b) w w' := by
 have E0 := Lib.hid e0
 have HC := Lib.hid (rcmd_ct2 H ok ht x x0 x1 e0)
 clear e0 ok ht
 go_enter Tryz.func116, Tryz.ntmps116
 go_wp2_with fail
 refine HC.out.mono ?_
 rintro e w1 ⟨rfl, H1, hK⟩
 go_wp2_with fail
 go_ret
 exact ⟨rfl, H1, hK⟩
theorem rputc_3 {w : World} {b : Nat} {c0 c1 c2 : Pit.Ct} {t : Int} (H : RT w b c0 c1 c2) (x : Int) (x0 : 0 ≤ x) (x1 : x < 256) (e0 : x / 64 = 3) :
    Calls Tryz.prog 116 #[.pointer (some ⟨b, 0, none⟩), .int .i64 3, .int .u8 x, .int .u64 t] w fun e w' => e = .returned (.int .i64 0) ∧ RT w' b c0 c1 c2 ∧ Keeps (· = b) w w' := by
 have HC := Lib.hid (rcmd3 (t := t) H x x0 x1 e0)
 clear e0
 go_enter Tryz.func116, Tryz.ntmps116
 go_wp2_with fail
 refine HC.out.mono ?_
 rintro e w1 ⟨rfl, H1, hK⟩
 go_wp2_with fail
 go_ret
 exact ⟨rfl, H1, hK⟩
end Go.Proofs.YtojmpdddfnkffaaGreat

/- bus: the document's timer: In, Line. -/
namespace Go.Proofs.YtojmpdddfnkffaaGreat
open Go.RowKit
set_option linter.unusedVariables false
set_option linter.unusedSimpArgs false

theorem rget0_all {w : World} {b : Nat} {c0 c1 c2 : Pit.Ct} {t : Int} (H : RT w b c0 c1 c2) (ok : c0.ok t) (ht : t < 18446744073709551616) (hd up h3 : Bool) (V : Int) (hV : V = bif hd then c0.v else c0.val t) (e1 : c0.hd = hd) (e2 : c0.up = up) (e3 : (c0.h == 3) = h3) :
    Calls Tryz.prog 120 #[.pointer (some ⟨b, 0, none⟩), .int .i64 0, .int .u64 t] w fun e w' => e = .returned (.tuple #[.int .u8 (bif up then V / 256 % 256 else V % 256), .int .i64 0]) ∧ RT w' b { c0 with hd := hd && h3 && !up, up := up != h3 } c1 c2 ∧ Keeps (· = b) w w' := by
 have hv := Lib.hid (show 0 ≤ V ∧ V < 65536 from by rw [hV]; cases hd; exact ok.val; exact ok.v)
 have e4 : (c0.h != 3) = !h3 := by simp only [bne, e3]
 cases hd <;> cases up <;> cases h3
 all_goals
  first | (obtain rfl : V = c0.v := hV) | (obtain rfl : V = c0.val t := hV)
  simp only [Bool.not_true, Bool.not_false] at e4
  have HRV0 : ∀ w : World, Calls Tryz.prog 143 #[.agg #[.int .i64 c0.m, .int .i64 c0.h, .int .u64 c0.l, .int .u64 c0.g, .bool c0.st, .bool c0.wn, .int .u8 c0.f, .bool c0.up, .bool c0.hd, .int .u64 c0.v], .int .u64 t] w fun e w' => e = .returned (.int .u64 (c0.val t)) ∧ Below w.heap.size w w' := fun w => rval_any ok ht w
  rw [e1] at HRV0
  rw [e2] at HRV0
  have HRV := Lib.hid HRV0
  clear HRV0
  obtain ⟨k0, k1, k2, k3, k4, k5, k6, k7, k8, k9, kf, klt⟩ := H.f0
  rw [e1] at k8
  rw [e2] at k7
  clear ok ht
  go_enter Tryz.func120, Tryz.ntmps120
  go_wp2_with fail
  refine (HRV.out _).mono ?_
  rintro e w1 ⟨rfl, hb⟩
  have H1 : RT w1 b c0 c1 c2 := (H.alloc _).below hb
  have X1 : w1.heap[w.heap.size]? = some (.cells #[.int .i64 c0.m, .int .i64 c0.h, .int .u64 c0.l, .int .u64 c0.g, .bool c0.st, .bool c0.wn, .int .u8 c0.f, .bool c0.up, .bool c0.hd, .int .u64 c0.v] 144) := by (rw [e1, e2]; exact heap_below hb (heap_new w _))
  rw [e1, e2] at X1
  have hbx : b ≠ w.heap.size := Nat.ne_of_lt klt
  have hK : Keeps (· = b) w w1 := ((Keeps.refl _ _).alloc _).trans (Keeps.ofBelow hb)
  clear k0 k1 k2 k3 k4 k5 k6 k7 k8 k9 kf HRV hb
  obtain ⟨k0, k1, k2, k3, k4, k5, k6, k7, k8, k9, kf, klt1⟩ := H1.f0
  have hg : w.heap.size ≤ w.heap.size := Nat.le_refl _
  have hso : ∀ (W : World) (k : Nat) (v : Value), (W.setCell ⟨w.heap.size, k, none⟩ v).heap[b]? = W.heap[b]? := fun W k v => heap_set_other _ hbx
  generalize hgx : w.heap.size = gx at X1 hso hg ⊢
  have HG := Lib.hid hgx
  have z0 : w1.cell? ⟨gx, 0, none⟩ = some (.int .i64 c0.m) := by rw [cell_at X1]; rfl
  have z1 : w1.cell? ⟨gx, 1, none⟩ = some (.int .i64 c0.h) := by rw [cell_at X1]; rfl
  have z2 : w1.cell? ⟨gx, 2, none⟩ = some (.int .u64 c0.l) := by rw [cell_at X1]; rfl
  have z3 : w1.cell? ⟨gx, 3, none⟩ = some (.int .u64 c0.g) := by rw [cell_at X1]; rfl
  have z4 : w1.cell? ⟨gx, 4, none⟩ = some (.bool c0.st) := by rw [cell_at X1]; rfl
  have z5 : w1.cell? ⟨gx, 5, none⟩ = some (.bool c0.wn) := by rw [cell_at X1]; rfl
  have z6 : w1.cell? ⟨gx, 6, none⟩ = some (.int .u8 c0.f) := by rw [cell_at X1]; rfl
  have z7 : w1.cell? ⟨gx, 7, none⟩ = some (.bool c0.up) := by (rw [e2, cell_at X1]; rfl)
  rw [e2] at z7
  have z8 : w1.cell? ⟨gx, 8, none⟩ = some (.bool c0.hd) := by (rw [e1, cell_at X1]; rfl)
  rw [e1] at z8
  have z9 : w1.cell? ⟨gx, 9, none⟩ = some (.int .u64 c0.v) := by rw [cell_at X1]; rfl
  have zf : ∀ k, w1.frozen? ⟨gx, k, none⟩ = false := fun k => free_at X1
  have zl := heap_lt X1
  obtain ⟨hv0, hv1⟩ := hv.out
  go_wp2_with fail
  all_goals
   go_region
  all_goals
   go_wp2_with fail
   go_ret2
   exact ⟨by first | rfl | (simp; done) | (simp; omega), by ((repeat' (first | (with_reducible refine RT.alloc ?_ _) | (with_reducible refine RT.drew ?_) | (with_reducible refine RT.drewN ?_ _))); unfold RT rct at H1 ⊢; simp only [hso, heap_drew, heap_set_map, putObj_cells, H1, Option.map_some, List.cons_append, List.nil_append, List.set_cons_succ, List.set_cons_zero, Bool.and_false, Bool.and_true, Bool.true_and, Bool.false_and, Bool.not_true, Bool.not_false, Bool.bne_true, Bool.bne_false]), by (repeat' (first | (with_reducible exact Keeps.refl _ _) | (with_reducible assumption) | (with_reducible refine Keeps.setOne ?_ _ _) | (with_reducible refine Keeps.alloc ?_ _) | (with_reducible refine Keeps.drew ?_) | (with_reducible refine Keeps.drewN ?_ _) | (refine Keeps.setCell ?_ (.inr (by have := HG.out; show _ ≤ gx; omega)) _)))⟩
theorem rget_ct0 {w : World} {b : Nat} {c0 c1 c2 : Pit.Ct} {t : Int} (H : RT w b c0 c1 c2) (ok : c0.ok t) (ht : t < 18446744073709551616) :
    Calls Tryz.prog 120 #[.pointer (some ⟨b, 0, none⟩), .int .i64 0, .int .u64 t] w fun e w' => e = .returned (.tuple #[.int .u8 (c0.getV t), .int .i64 0]) ∧ RT w' b c0.getS c1 c2 ∧ Keeps (· = b) w w' := by
 have h := rget0_all H ok ht _ _ _ _ rfl rfl rfl rfl
 unfold Pit.Ct.getV Pit.Ct.getS
 cases h1 : c0.hd <;> cases h2 : c0.up <;> cases h3 : (c0.h == 3) <;> (rw [h1, h2, h3] at h; exact h)
theorem rget1_all {w : World} {b : Nat} {c0 c1 c2 : Pit.Ct} {t : Int} (H : RT w b c0 c1 c2) (ok : c1.ok t) (ht : t < 18446744073709551616) (hd up h3 : Bool) (V : Int) (hV : V = bif hd then c1.v else c1.val t) (e1 : c1.hd = hd) (e2 : c1.up = up) (e3 : (c1.h == 3) = h3) :
    Calls Tryz.prog 120 #[.pointer (some ⟨b, 0, none⟩), .int .i64 1, .int .u64 t] w fun e w' => e = .returned (.tuple #[.int .u8 (bif up then V / 256 % 256 else V % 256), .int .i64 0]) ∧ RT w' b c0 { c1 with hd := hd && h3 && !up, up := up != h3 } c2 ∧ Keeps (· = b) w w' := by
 have hv := Lib.hid (show 0 ≤ V ∧ V < 65536 from by rw [hV]; cases hd; exact ok.val; exact ok.v)
 have e4 : (c1.h != 3) = !h3 := by simp only [bne, e3]
 cases hd <;> cases up <;> cases h3
 all_goals
  first | (obtain rfl : V = c1.v := hV) | (obtain rfl : V = c1.val t := hV)
  simp only [Bool.not_true, Bool.not_false] at e4
  have HRV0 : ∀ w : World, Calls Tryz.prog 143 #[.agg #[.int .i64 c1.m, .int .i64 c1.h, .int .u64 c1.l, .int .u64 c1.g, .bool c1.st, .bool c1.wn, .int .u8 c1.f, .bool c1.up, .bool c1.hd, .int .u64 c1.v], .int .u64 t] w fun e w' => e = .returned (.int .u64 (c1.val t)) ∧ Below w.heap.size w w' := fun w => rval_any ok ht w
  rw [e1] at HRV0
  rw [e2] at HRV0
  have HRV := Lib.hid HRV0
  clear HRV0
  obtain ⟨k0, k1, k2, k3, k4, k5, k6, k7, k8, k9, kf, klt⟩ := H.f1
  rw [e1] at k8
  rw [e2] at k7
  clear ok ht
  go_enter Tryz.func120, Tryz.ntmps120
  go_wp2_with fail
  refine (HRV.out _).mono ?_
  rintro e w1 ⟨rfl, hb⟩
  have H1 : RT w1 b c0 c1 c2 := (H.alloc _).below hb
  have X1 : w1.heap[w.heap.size]? = some (.cells #[.int .i64 c1.m, .int .i64 c1.h, .int .u64 c1.l, .int .u64 c1.g, .bool c1.st, .bool c1.wn, .int .u8 c1.f, .bool c1.up, .bool c1.hd, .int .u64 c1.v] 144) := by (rw [e1, e2]; exact heap_below hb (heap_new w _))
  rw [e1, e2] at X1
  have hbx : b ≠ w.heap.size := Nat.ne_of_lt klt
  have hK : Keeps (· = b) w w1 := ((Keeps.refl _ _).alloc _).trans (Keeps.ofBelow hb)
  clear k0 k1 k2 k3 k4 k5 k6 k7 k8 k9 kf HRV hb
  obtain ⟨k0, k1, k2, k3, k4, k5, k6, k7, k8, k9, kf, klt1⟩ := H1.f1
  have hg : w.heap.size ≤ w.heap.size := Nat.le_refl _
  have hso : ∀ (W : World) (k : Nat) (v : Value), (W.setCell ⟨w.heap.size, k, none⟩ v).heap[b]? = W.heap[b]? := fun W k v => heap_set_other _ hbx
  generalize hgx : w.heap.size = gx at X1 hso hg ⊢
  have HG := Lib.hid hgx
  have z0 : w1.cell? ⟨gx, 0, none⟩ = some (.int .i64 c1.m) := by rw [cell_at X1]; rfl
  have z1 : w1.cell? ⟨gx, 1, none⟩ = some (.int .i64 c1.h) := by rw [cell_at X1]; rfl
  have z2 : w1.cell? ⟨gx, 2, none⟩ = some (.int .u64 c1.l) := by rw [cell_at X1]; rfl
  have z3 : w1.cell? ⟨gx, 3, none⟩ = some (.int .u64 c1.g) := by rw [cell_at X1]; rfl
  have z4 : w1.cell? ⟨gx, 4, none⟩ = some (.bool c1.st) := by rw [cell_at X1]; rfl
  have z5 : w1.cell? ⟨gx, 5, none⟩ = some (.bool c1.wn) := by rw [cell_at X1]; rfl
  have z6 : w1.cell? ⟨gx, 6, none⟩ = some (.int .u8 c1.f) := by rw [cell_at X1]; rfl
  have z7 : w1.cell? ⟨gx, 7, none⟩ = some (.bool c1.up) := by (rw [e2, cell_at X1]; rfl)
  rw [e2] at z7
  have z8 : w1.cell? ⟨gx, 8, none⟩ = some (.bool c1.hd) := by (rw [e1, cell_at X1]; rfl)
  rw [e1] at z8
  have z9 : w1.cell? ⟨gx, 9, none⟩ = some (.int .u64 c1.v) := by rw [cell_at X1]; rfl
  have zf : ∀ k, w1.frozen? ⟨gx, k, none⟩ = false := fun k => free_at X1
  have zl := heap_lt X1
  obtain ⟨hv0, hv1⟩ := hv.out
  go_wp2_with fail
  all_goals
   go_region
  all_goals
   go_wp2_with fail
   go_ret2
   exact ⟨by first | rfl | (simp; done) | (simp; omega), by ((repeat' (first | (with_reducible refine RT.alloc ?_ _) | (with_reducible refine RT.drew ?_) | (with_reducible refine RT.drewN ?_ _))); unfold RT rct at H1 ⊢; simp only [hso, heap_drew, heap_set_map, putObj_cells, H1, Option.map_some, List.cons_append, List.nil_append, List.set_cons_succ, List.set_cons_zero, Bool.and_false, Bool.and_true, Bool.true_and, Bool.false_and, Bool.not_true, Bool.not_false, Bool.bne_true, Bool.bne_false]), by (repeat' (first | (with_reducible exact Keeps.refl _ _) | (with_reducible assumption) | (with_reducible refine Keeps.setOne ?_ _ _) | (with_reducible refine Keeps.alloc ?_ _) | (with_reducible refine Keeps.drew ?_) | (with_reducible refine Keeps.drewN ?_ _) | (refine Keeps.setCell ?_ (.inr (by have := HG.out; show _ ≤ gx; omega)) _)))⟩
theorem rget_ct1 {w : World} {b : Nat} {c0 c1 c2 : Pit.Ct} {t : Int} (H : RT w b c0 c1 c2) (ok : c1.ok t) (ht : t < 18446744073709551616) :
    Calls Tryz.prog 120 #[.pointer (some ⟨b, 0, none⟩), .int .i64 1, .int .u64 t] w fun e w' => e = .returned (.tuple #[.int .u8 (c1.getV t), .int .i64 0]) ∧ RT w' b c0 c1.getS c2 ∧ Keeps (· = b) w w' := by
 have h := rget1_all H ok ht _ _ _ _ rfl rfl rfl rfl
 unfold Pit.Ct.getV Pit.Ct.getS
 cases h1 : c1.hd <;> cases h2 : c1.up <;> cases h3 : (c1.h == 3) <;> (rw [h1, h2, h3] at h; exact h)
theorem rget2_all {w : World} {b : Nat} {c0 c1 c2 : Pit.Ct} {t : Int} (H : RT w b c0 c1 c2) (ok : c2.ok t) (ht : t < 18446744073709551616) (hd up h3 : Bool) (V : Int) (hV : V = bif hd then c2.v else c2.val t) (e1 : c2.hd = hd) (e2 : c2.up = up) (e3 : (c2.h == 3) = h3) :
    Calls Tryz.prog 120 #[.pointer (some ⟨b, 0, none⟩), .int .i64 2, .int .u64 t] w fun e w' => e = .returned (.tuple #[.int .u8 (bif up then V / 256 % 256 else V % 256), .int .i64 0]) ∧ RT w' b c0 c1 { c2 with hd := hd && h3 && !up, up := up != h3 } ∧ Keeps (· = b) w w' := by
 have hv := Lib.hid (show 0 ≤ V ∧ V < 65536 from by rw [hV]; cases hd; exact ok.val; exact ok.v)
 have e4 : (c2.h != 3) = !h3 := by simp only [bne, e3]
 cases hd <;> cases up <;> cases h3
 all_goals
  first | (obtain rfl : V = c2.v := hV) | (obtain rfl : V = c2.val t := hV)
  simp only [Bool.not_true, Bool.not_false] at e4
  have HRV0 : ∀ w : World, Calls Tryz.prog 143 #[.agg #[.int .i64 c2.m, .int .i64 c2.h, .int .u64 c2.l, .int .u64 c2.g, .bool c2.st, .bool c2.wn, .int .u8 c2.f, .bool c2.up, .bool c2.hd, .int .u64 c2.v], .int .u64 t] w fun e w' => e = .returned (.int .u64 (c2.val t)) ∧ Below w.heap.size w w' := fun w => rval_any ok ht w
  rw [e1] at HRV0
  rw [e2] at HRV0
  have HRV := Lib.hid HRV0
  clear HRV0
  obtain ⟨k0, k1, k2, k3, k4, k5, k6, k7, k8, k9, kf, klt⟩ := H.f2
  rw [e1] at k8
  rw [e2] at k7
  clear ok ht
  go_enter Tryz.func120, Tryz.ntmps120
  go_wp2_with fail
  refine (HRV.out _).mono ?_
  rintro e w1 ⟨rfl, hb⟩
  have H1 : RT w1 b c0 c1 c2 := (H.alloc _).below hb
  have X1 : w1.heap[w.heap.size]? = some (.cells #[.int .i64 c2.m, .int .i64 c2.h, .int .u64 c2.l, .int .u64 c2.g, .bool c2.st, .bool c2.wn, .int .u8 c2.f, .bool c2.up, .bool c2.hd, .int .u64 c2.v] 144) := by (rw [e1, e2]; exact heap_below hb (heap_new w _))
  rw [e1, e2] at X1
  have hbx : b ≠ w.heap.size := Nat.ne_of_lt klt
  have hK : Keeps (· = b) w w1 := ((Keeps.refl _ _).alloc _).trans (Keeps.ofBelow hb)
  clear k0 k1 k2 k3 k4 k5 k6 k7 k8 k9 kf HRV hb
  obtain ⟨k0, k1, k2, k3, k4, k5, k6, k7, k8, k9, kf, klt1⟩ := H1.f2
  have hg : w.heap.size ≤ w.heap.size := Nat.le_refl _
  have hso : ∀ (W : World) (k : Nat) (v : Value), (W.setCell ⟨w.heap.size, k, none⟩ v).heap[b]? = W.heap[b]? := fun W k v => heap_set_other _ hbx
  generalize hgx : w.heap.size = gx at X1 hso hg ⊢
  have HG := Lib.hid hgx
  have z0 : w1.cell? ⟨gx, 0, none⟩ = some (.int .i64 c2.m) := by rw [cell_at X1]; rfl
  have z1 : w1.cell? ⟨gx, 1, none⟩ = some (.int .i64 c2.h) := by rw [cell_at X1]; rfl
  have z2 : w1.cell? ⟨gx, 2, none⟩ = some (.int .u64 c2.l) := by rw [cell_at X1]; rfl
  have z3 : w1.cell? ⟨gx, 3, none⟩ = some (.int .u64 c2.g) := by rw [cell_at X1]; rfl
  have z4 : w1.cell? ⟨gx, 4, none⟩ = some (.bool c2.st) := by rw [cell_at X1]; rfl
  have z5 : w1.cell? ⟨gx, 5, none⟩ = some (.bool c2.wn) := by rw [cell_at X1]; rfl
  have z6 : w1.cell? ⟨gx, 6, none⟩ = some (.int .u8 c2.f) := by rw [cell_at X1]; rfl
  have z7 : w1.cell? ⟨gx, 7, none⟩ = some (.bool c2.up) := by (rw [e2, cell_at X1]; rfl)
  rw [e2] at z7
  have z8 : w1.cell? ⟨gx, 8, none⟩ = some (.bool c2.hd) := by (rw [e1, cell_at X1]; rfl)
  rw [e1] at z8
  have z9 : w1.cell? ⟨gx, 9, none⟩ = some (.int .u64 c2.v) := by rw [cell_at X1]; rfl
  have zf : ∀ k, w1.frozen? ⟨gx, k, none⟩ = false := fun k => free_at X1
  have zl := heap_lt X1
  obtain ⟨hv0, hv1⟩ := hv.out
  go_wp2_with fail
  all_goals
   go_region
  all_goals
   go_wp2_with fail
   go_ret2
   exact ⟨by first | rfl | (simp; done) | (simp; omega), by ((repeat' (first | (with_reducible refine RT.alloc ?_ _) | (with_reducible refine RT.drew ?_) | (with_reducible refine RT.drewN ?_ _))); unfold RT rct at H1 ⊢; simp only [hso, heap_drew, heap_set_map, putObj_cells, H1, Option.map_some, List.cons_append, List.nil_append, List.set_cons_succ, List.set_cons_zero, Bool.and_false, Bool.and_true, Bool.true_and, Bool.false_and, Bool.not_true, Bool.not_false, Bool.bne_true, Bool.bne_false]), by (repeat' (first | (with_reducible exact Keeps.refl _ _) | (with_reducible assumption) | (with_reducible refine Keeps.setOne ?_ _ _) | (with_reducible refine Keeps.alloc ?_ _) | (with_reducible refine Keeps.drew ?_) | (with_reducible refine Keeps.drewN ?_ _) | (refine Keeps.setCell ?_ (.inr (by have := HG.out; show _ ≤ gx; omega)) _)))⟩
theorem rget_ct2 {w : World} {b : Nat} {c0 c1 c2 : Pit.Ct} {t : Int} (H : RT w b c0 c1 c2) (ok : c2.ok t) (ht : t < 18446744073709551616) :
    Calls Tryz.prog 120 #[.pointer (some ⟨b, 0, none⟩), .int .i64 2, .int .u64 t] w fun e w' => e = .returned (.tuple #[.int .u8 (c2.getV t), .int .i64 0]) ∧ RT w' b c0 c1 c2.getS ∧ Keeps (· = b) w w' := by
 have h := rget2_all H ok ht _ _ _ _ rfl rfl rfl rfl
 unfold Pit.Ct.getV Pit.Ct.getS
 cases h1 : c2.hd <;> cases h2 : c2.up <;> cases h3 : (c2.h == 3) <;> (rw [h1, h2, h3] at h; exact h)
theorem rget_3 {w : World} {b : Nat} {c0 c1 c2 : Pit.Ct} {t : Int} (H : RT w b c0 c1 c2)  :
    Calls Tryz.prog 120 #[.pointer (some ⟨b, 0, none⟩), .int .i64 3, .int .u64 t] w fun e w' => e = .returned (.tuple #[.int .u8 255, .int .i64 0]) ∧ RT w' b c0 c1 c2 ∧ Keeps (· = b) w w' := by
 go_enter Tryz.func120, Tryz.ntmps120
 go_wp2_with fail
 go_ret2
 exact ⟨rfl, H, Keeps.refl _ _⟩
theorem rline_st {w : World} {b : Nat} {c0 c1 c2 : Pit.Ct} {t : Int} (H : RT w b c0 c1 c2) (ok : c0.ok t) (ht : t < 18446744073709551616) (e1 : c0.st = true) :
    Calls Tryz.prog 80 #[.pointer (some ⟨b, 0, none⟩), .int .u64 t] w fun e w' => e = .returned (.bool (c0.m != 0)) ∧ Below w.heap.size w w' := by
 have hl := ok.l
 have hg := ok.g
 have hsub : IntKind.u64.wrap (t - c0.g) = t - c0.g := IntWalk.u64_in _ (by omega)
 have hs0 : 0 ≤ t - c0.g := by omega
 obtain ⟨l0, l1⟩ := hl
 obtain ⟨g0, g1⟩ := hg
 obtain ⟨k0, k1, k2, k3, k4, k5, k6, k7, k8, k9, kf, klt⟩ := H.f0
 rw [e1] at k4
 clear ok
 go_enter Tryz.func80, Tryz.ntmps80
 go_wp2_with fail
 go_ret
 exact ⟨by first | rfl | (refine congrArg (fun x : Bool => Ending.returned (Value.bool x)) (?_ : _ = _); simp; done), by first | exact Pic.below_drewN ((Below.refl _ _).alloc (Nat.le_refl _) _) _ | go_grown⟩
theorem rline_0 {w : World} {b : Nat} {c0 c1 c2 : Pit.Ct} {t : Int} (H : RT w b c0 c1 c2) (ok : c0.ok t) (ht : t < 18446744073709551616) (e1 : c0.st = false) (e2 : c0.m = 0) :
    Calls Tryz.prog 80 #[.pointer (some ⟨b, 0, none⟩), .int .u64 t] w fun e w' => e = .returned (.bool (decide (c0.l ≤ t - c0.g))) ∧ Below w.heap.size w w' := by
 have hl := ok.l
 have hg := ok.g
 have hsub : IntKind.u64.wrap (t - c0.g) = t - c0.g := IntWalk.u64_in _ (by omega)
 have hs0 : 0 ≤ t - c0.g := by omega
 obtain ⟨l0, l1⟩ := hl
 obtain ⟨g0, g1⟩ := hg
 obtain ⟨k0, k1, k2, k3, k4, k5, k6, k7, k8, k9, kf, klt⟩ := H.f0
 rw [e1] at k4
 rw [e2] at k0
 clear ok
 go_enter Tryz.func80, Tryz.ntmps80
 go_wp2_with fail
 go_ret
 exact ⟨by first | rfl | (refine congrArg (fun x : Bool => Ending.returned (Value.bool x)) (?_ : _ = _); simp; done), by first | exact Pic.below_drewN ((Below.refl _ _).alloc (Nat.le_refl _) _) _ | go_grown⟩
theorem rline_2 {w : World} {b : Nat} {c0 c1 c2 : Pit.Ct} {t : Int} (H : RT w b c0 c1 c2) (ok : c0.ok t) (ht : t < 18446744073709551616) (e1 : c0.st = false) (e2 : c0.m = 2) :
    Calls Tryz.prog 80 #[.pointer (some ⟨b, 0, none⟩), .int .u64 t] w fun e w' => e = .returned (.bool ((t - c0.g) % c0.l != c0.l - 1)) ∧ Below w.heap.size w w' := by
 have hl := ok.l
 have hg := ok.g
 have hsub : IntKind.u64.wrap (t - c0.g) = t - c0.g := IntWalk.u64_in _ (by omega)
 have hs0 : 0 ≤ t - c0.g := by omega
 have hr0 : 0 ≤ (t - c0.g) % c0.l := Int.emod_nonneg _ (by omega)
 have hr1 : (t - c0.g) % c0.l < c0.l := Int.emod_lt_of_pos _ (by omega)
 obtain ⟨l0, l1⟩ := hl
 obtain ⟨g0, g1⟩ := hg
 obtain ⟨k0, k1, k2, k3, k4, k5, k6, k7, k8, k9, kf, klt⟩ := H.f0
 rw [e1] at k4
 rw [e2] at k0
 clear ok
 go_enter Tryz.func80, Tryz.ntmps80
 go_wp2_with fail
 go_quiet (fail)
 go_wp2_with fail
 go_ret
 exact ⟨by first | rfl | (refine congrArg (fun x : Bool => Ending.returned (Value.bool x)) (?_ : _ = _); simp; done), by first | exact Pic.below_drewN ((Below.refl _ _).alloc (Nat.le_refl _) _) _ | go_grown⟩
theorem rline_3 {w : World} {b : Nat} {c0 c1 c2 : Pit.Ct} {t : Int} (H : RT w b c0 c1 c2) (ok : c0.ok t) (ht : t < 18446744073709551616) (e1 : c0.st = false) (e2 : c0.m = 3) :
    Calls Tryz.prog 80 #[.pointer (some ⟨b, 0, none⟩), .int .u64 t] w fun e w' => e = .returned (.bool (decide ((t - c0.g) % c0.l < (c0.l + 1) / 2))) ∧ Below w.heap.size w w' := by
 have hl := ok.l
 have hg := ok.g
 have hsub : IntKind.u64.wrap (t - c0.g) = t - c0.g := IntWalk.u64_in _ (by omega)
 have hs0 : 0 ≤ t - c0.g := by omega
 have hr0 : 0 ≤ (t - c0.g) % c0.l := Int.emod_nonneg _ (by omega)
 have hr1 : (t - c0.g) % c0.l < c0.l := Int.emod_lt_of_pos _ (by omega)
 obtain ⟨l0, l1⟩ := hl
 obtain ⟨g0, g1⟩ := hg
 obtain ⟨k0, k1, k2, k3, k4, k5, k6, k7, k8, k9, kf, klt⟩ := H.f0
 rw [e1] at k4
 rw [e2] at k0
 clear ok
 go_enter Tryz.func80, Tryz.ntmps80
 go_wp2_with fail
 go_quiet (fail)
 go_wp2_with fail
 go_ret
 exact ⟨by first | rfl | (refine congrArg (fun x : Bool => Ending.returned (Value.bool x)) (?_ : _ = _); simp; done), by first | exact Pic.below_drewN ((Below.refl _ _).alloc (Nat.le_refl _) _) _ | go_grown⟩
theorem rline_x {w : World} {b : Nat} {c0 c1 c2 : Pit.Ct} {t : Int} (H : RT w b c0 c1 c2) (ok : c0.ok t) (ht : t < 18446744073709551616) (e1 : c0.st = false) (h0 : (c0.m == 0) = false) (h2 : (c0.m == 2) = false) (h3 : (c0.m == 3) = false) :
    Calls Tryz.prog 80 #[.pointer (some ⟨b, 0, none⟩), .int .u64 t] w fun e w' => e = .returned (.bool (true)) ∧ Below w.heap.size w w' := by
 have hl := ok.l
 have hg := ok.g
 have hsub : IntKind.u64.wrap (t - c0.g) = t - c0.g := IntWalk.u64_in _ (by omega)
 have hs0 : 0 ≤ t - c0.g := by omega
 obtain ⟨l0, l1⟩ := hl
 obtain ⟨g0, g1⟩ := hg
 obtain ⟨k0, k1, k2, k3, k4, k5, k6, k7, k8, k9, kf, klt⟩ := H.f0
 rw [e1] at k4
 clear ok
 go_enter Tryz.func80, Tryz.ntmps80
 go_wp2_with fail
 go_ret
 exact ⟨by first | rfl | (refine congrArg (fun x : Bool => Ending.returned (Value.bool x)) (?_ : _ = _); simp; done), by first | exact Pic.below_drewN ((Below.refl _ _).alloc (Nat.le_refl _) _) _ | go_grown⟩
theorem rline_ct {w : World} {b : Nat} {c0 c1 c2 : Pit.Ct} {t : Int} (H : RT w b c0 c1 c2) (ok : c0.ok t) (ht : t < 18446744073709551616) :
    Calls Tryz.prog 80 #[.pointer (some ⟨b, 0, none⟩), .int .u64 t] w fun e w' => e = .returned (.bool (c0.line t)) ∧ Below w.heap.size w w' := by
 unfold Pit.Ct.line Pit.linev
 cases h1 : c0.st
 ·rw [if_neg (show ¬ (false = true) by decide)]
  by_cases h0 : c0.m = 0
  ·rw [if_pos h0]; exact rline_0 H ok ht h1 h0
  ·rw [if_neg h0]
   by_cases h2 : c0.m = 2
   ·rw [if_pos h2]; exact rline_2 H ok ht h1 h2
   ·rw [if_neg h2]
    by_cases h3 : c0.m = 3
    ·rw [if_pos h3]; exact rline_3 H ok ht h1 h3
    ·rw [if_neg h3]; exact rline_x H ok ht h1 (by simpa using h0) (by simpa using h2) (by simpa using h3)
 ·rw [if_pos rfl]; exact rline_st H ok ht h1
end Go.Proofs.YtojmpdddfnkffaaGreat

