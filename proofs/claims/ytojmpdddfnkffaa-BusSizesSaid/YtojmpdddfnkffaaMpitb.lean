/- PitQ PitR PitS, together. -/
import Derived.Laws.BitsAll
import Derived.Test.YtojmpdddfnkffaaMpita
/- pit: three counters as one object; what a counter is worth. -/
namespace Go.Proofs.Ytojmpdddfnkffaa.Pit
open Go.RowKit
set_option linter.unusedVariables false
set_option linter.unusedSimpArgs false

/-- A counter. -/
structure Ct where
  m : Int
  h : Int
  st : Bool
  l : Int
  g : Int
  wn : Bool
  up : Bool
  f : Int
  hd : Bool
  v : Int
structure Ct.ok (c : Ct) (t : Int) : Prop where
  m : 0 ≤ c.m ∧ c.m ≤ 5
  h : 1 ≤ c.h ∧ c.h ≤ 3
  l : 1 ≤ c.l ∧ c.l ≤ 65536
  g : 0 ≤ c.g ∧ c.g ≤ t
  f : 0 ≤ c.f ∧ c.f < 256
  v : 0 ≤ c.v ∧ c.v < 65536
def Ct.cells (c : Ct) : List Value := [.int .u8 c.m, .int .u8 c.h, .bool c.st, .int .u64 c.l, .int .u64 c.g, .bool c.wn, .bool c.up, .int .u8 c.f, .bool c.hd, .int .u16 c.v]
def Ct.val (c : Ct) (t : Int) : Int := nowv c.m c.st c.l c.g t
def Ct.line (c : Ct) (t : Int) : Bool := linev c.m c.st c.l c.g t
theorem Ct.ok.val {c : Ct} {t : Int} (h : c.ok t) : 0 ≤ c.val t ∧ c.val t < 65536 := by
  have h0 := h.l
  unfold Ct.val nowv
  split
  · omega
  · split
    · omega
    · split <;> omega
/-- Block b is a timer. -/
def Tm (w : World) (b : Nat) (c0 c1 c2 : Ct) : Prop := w.heap[b]? = some (.cells (c0.cells ++ c1.cells ++ c2.cells).toArray 134)
theorem Tm.below {w w1 : World} {b : Nat} {c0 c1 c2 : Ct} (H : Tm w b c0 c1 c2) (hb : Below w.heap.size w w1) : Tm w1 b c0 c1 c2 := heap_below hb H
theorem Tm.lt {w : World} {b : Nat} {c0 c1 c2 : Ct} (H : Tm w b c0 c1 c2) : b < w.heap.size := heap_lt (show w.heap[b]? = some _ from H)
theorem and_3 (x : Int) (h0 : 0 ≤ x) (h1 : x < 256) : bits BinOp.and IntKind.u8 x 3 = x % 4 := by
  obtain ⟨a, rfl⟩ := Int.eq_ofNat_of_zero_le h0
  have h : ∀ a : Fin 256, bits BinOp.and IntKind.u8 ((a.val : Nat) : Int) 3 = ((a.val : Nat) : Int) % 4 := by decide +kernel
  exact h ⟨a, by omega⟩
theorem and_7 (x : Int) (h0 : 0 ≤ x) (h1 : x < 256) : bits BinOp.and IntKind.u8 x 7 = x % 8 := by
  obtain ⟨a, rfl⟩ := Int.eq_ofNat_of_zero_le h0
  have h : ∀ a : Fin 256, bits BinOp.and IntKind.u8 ((a.val : Nat) : Int) 7 = ((a.val : Nat) : Int) % 8 := by decide +kernel
  exact h ⟨a, by omega⟩
theorem Tm.f0 {w : World} {b : Nat} {c0 c1 c2 : Ct} (H : Tm w b c0 c1 c2) :
    w.cell? ⟨b, 0, none⟩ = some (.int .u8 c0.m) ∧ w.cell? ⟨b, 1, none⟩ = some (.int .u8 c0.h) ∧ w.cell? ⟨b, 2, none⟩ = some (.bool c0.st) ∧ w.cell? ⟨b, 3, none⟩ = some (.int .u64 c0.l) ∧ w.cell? ⟨b, 4, none⟩ = some (.int .u64 c0.g) ∧ w.cell? ⟨b, 5, none⟩ = some (.bool c0.wn) ∧ w.cell? ⟨b, 6, none⟩ = some (.bool c0.up) ∧ w.cell? ⟨b, 7, none⟩ = some (.int .u8 c0.f) ∧ w.cell? ⟨b, 8, none⟩ = some (.bool c0.hd) ∧ w.cell? ⟨b, 9, none⟩ = some (.int .u16 c0.v) ∧
    (∀ k, w.frozen? ⟨b, k, none⟩ = false) ∧ b < w.heap.size := by
  unfold Tm at H
  refine ⟨?_, ?_, ?_, ?_, ?_, ?_, ?_, ?_, ?_, ?_, fun k => free_at H, heap_lt H⟩ <;> (rw [cell_at H]; rfl)
theorem now_ct0 {w : World} {b : Nat} {c0 c1 c2 : Ct} {t : Int} (H : Tm w b c0 c1 c2) (ok : c0.ok t) (ht : t < 18446744073709551616) :
    Calls Try.prog 98 #[.pointer (some ⟨b, 0, none⟩), .int .u64 t] w fun e w' => e = .returned (.int .u16 (c0.val t)) ∧ Below w.heap.size w w' := by
  obtain ⟨k0, k1, k2, k3, k4, k5, k6, k7, k8, k9, kf, klt⟩ := H.f0
  by_cases hm : c0.m = 0 ∨ c0.m = 2 ∨ c0.m = 3
  · exact now_any _ _ _ _ t b 0 w k0 k2 k3 k4 ok.l.1 ok.l.2 ok.g.1 ok.g.2 ht hm
  · refine (now_miss _ _ _ c0.g t b 0 w k0 k2 k3 ok.l.1 ok.l.2 (miss_of (by omega) (by omega) (by omega))).mono fun e w' h => ⟨h.1.trans ?_, h.2⟩
    unfold Ct.val nowv
    rw [if_neg (show ¬ c0.m = 0 by omega), if_neg (show ¬ (c0.m = 2 ∨ c0.m = 3) by omega)]
    cases c0.st <;> simp
theorem Tm.f1 {w : World} {b : Nat} {c0 c1 c2 : Ct} (H : Tm w b c0 c1 c2) :
    w.cell? ⟨b, 10, none⟩ = some (.int .u8 c1.m) ∧ w.cell? ⟨b, 11, none⟩ = some (.int .u8 c1.h) ∧ w.cell? ⟨b, 12, none⟩ = some (.bool c1.st) ∧ w.cell? ⟨b, 13, none⟩ = some (.int .u64 c1.l) ∧ w.cell? ⟨b, 14, none⟩ = some (.int .u64 c1.g) ∧ w.cell? ⟨b, 15, none⟩ = some (.bool c1.wn) ∧ w.cell? ⟨b, 16, none⟩ = some (.bool c1.up) ∧ w.cell? ⟨b, 17, none⟩ = some (.int .u8 c1.f) ∧ w.cell? ⟨b, 18, none⟩ = some (.bool c1.hd) ∧ w.cell? ⟨b, 19, none⟩ = some (.int .u16 c1.v) ∧
    (∀ k, w.frozen? ⟨b, k, none⟩ = false) ∧ b < w.heap.size := by
  unfold Tm at H
  refine ⟨?_, ?_, ?_, ?_, ?_, ?_, ?_, ?_, ?_, ?_, fun k => free_at H, heap_lt H⟩ <;> (rw [cell_at H]; rfl)
theorem now_ct1 {w : World} {b : Nat} {c0 c1 c2 : Ct} {t : Int} (H : Tm w b c0 c1 c2) (ok : c1.ok t) (ht : t < 18446744073709551616) :
    Calls Try.prog 98 #[.pointer (some ⟨b, 10, none⟩), .int .u64 t] w fun e w' => e = .returned (.int .u16 (c1.val t)) ∧ Below w.heap.size w w' := by
  obtain ⟨k0, k1, k2, k3, k4, k5, k6, k7, k8, k9, kf, klt⟩ := H.f1
  by_cases hm : c1.m = 0 ∨ c1.m = 2 ∨ c1.m = 3
  · exact now_any _ _ _ _ t b 10 w k0 k2 k3 k4 ok.l.1 ok.l.2 ok.g.1 ok.g.2 ht hm
  · refine (now_miss _ _ _ c1.g t b 10 w k0 k2 k3 ok.l.1 ok.l.2 (miss_of (by omega) (by omega) (by omega))).mono fun e w' h => ⟨h.1.trans ?_, h.2⟩
    unfold Ct.val nowv
    rw [if_neg (show ¬ c1.m = 0 by omega), if_neg (show ¬ (c1.m = 2 ∨ c1.m = 3) by omega)]
    cases c1.st <;> simp
theorem Tm.f2 {w : World} {b : Nat} {c0 c1 c2 : Ct} (H : Tm w b c0 c1 c2) :
    w.cell? ⟨b, 20, none⟩ = some (.int .u8 c2.m) ∧ w.cell? ⟨b, 21, none⟩ = some (.int .u8 c2.h) ∧ w.cell? ⟨b, 22, none⟩ = some (.bool c2.st) ∧ w.cell? ⟨b, 23, none⟩ = some (.int .u64 c2.l) ∧ w.cell? ⟨b, 24, none⟩ = some (.int .u64 c2.g) ∧ w.cell? ⟨b, 25, none⟩ = some (.bool c2.wn) ∧ w.cell? ⟨b, 26, none⟩ = some (.bool c2.up) ∧ w.cell? ⟨b, 27, none⟩ = some (.int .u8 c2.f) ∧ w.cell? ⟨b, 28, none⟩ = some (.bool c2.hd) ∧ w.cell? ⟨b, 29, none⟩ = some (.int .u16 c2.v) ∧
    (∀ k, w.frozen? ⟨b, k, none⟩ = false) ∧ b < w.heap.size := by
  unfold Tm at H
  refine ⟨?_, ?_, ?_, ?_, ?_, ?_, ?_, ?_, ?_, ?_, fun k => free_at H, heap_lt H⟩ <;> (rw [cell_at H]; rfl)
theorem now_ct2 {w : World} {b : Nat} {c0 c1 c2 : Ct} {t : Int} (H : Tm w b c0 c1 c2) (ok : c2.ok t) (ht : t < 18446744073709551616) :
    Calls Try.prog 98 #[.pointer (some ⟨b, 20, none⟩), .int .u64 t] w fun e w' => e = .returned (.int .u16 (c2.val t)) ∧ Below w.heap.size w w' := by
  obtain ⟨k0, k1, k2, k3, k4, k5, k6, k7, k8, k9, kf, klt⟩ := H.f2
  by_cases hm : c2.m = 0 ∨ c2.m = 2 ∨ c2.m = 3
  · exact now_any _ _ _ _ t b 20 w k0 k2 k3 k4 ok.l.1 ok.l.2 ok.g.1 ok.g.2 ht hm
  · refine (now_miss _ _ _ c2.g t b 20 w k0 k2 k3 ok.l.1 ok.l.2 (miss_of (by omega) (by omega) (by omega))).mono fun e w' h => ⟨h.1.trans ?_, h.2⟩
    unfold Ct.val nowv
    rw [if_neg (show ¬ c2.m = 0 by omega), if_neg (show ¬ (c2.m = 2 ∨ c2.m = 3) by omega)]
    cases c2.st <;> simp
theorem line_tm {w : World} {b : Nat} {c0 c1 c2 : Ct} {t : Int} (H : Tm w b c0 c1 c2) (ok : c0.ok t) (ht : t < 18446744073709551616) :
    Calls Try.prog 66 #[.pointer (some ⟨b, 0, none⟩), .int .u64 t] w fun e w' => e = .returned (.bool (c0.line t)) ∧ Below w.heap.size w w' := by
  obtain ⟨k0, k1, k2, k3, k4, k5, k6, k7, k8, k9, kf, klt⟩ := H.f0
  by_cases hm : c0.m = 0 ∨ c0.m = 2 ∨ c0.m = 3
  · exact line_any _ _ _ _ t b w k0 k2 k3 k4 ok.l.1 ok.l.2 ok.g.1 ok.g.2 ht hm
  · refine (line_miss _ _ c0.l c0.g t b w k0 k2 (by omega) (miss_of (by omega) (by omega) (by omega))).mono fun e w' h => ⟨h.1.trans ?_, h.2⟩
    unfold Ct.line linev
    rw [if_neg (show ¬ c0.m = 0 by omega), if_neg (show ¬ c0.m = 2 by omega), if_neg (show ¬ c0.m = 3 by omega), show (c0.m != 0) = true by simp; omega]
    cases c0.st <;> rfl
/-- A command to a counter; a byte put to it; a byte got of it. -/
def Ct.cmd (c : Ct) (x t : Int) : Ct :=
  if x / 16 % 4 = 0 then (if c.hd then c else { c with v := c.val t, hd := true })
  else { c with h := x / 16 % 4, hd := false, wn := false, up := (x / 16 % 4 == 2), st := true, m := if 5 < x / 2 % 8 then x / 2 % 8 - 4 else x / 2 % 8 }
def Ct.full (x : Int) : Int := if x = 0 then 65536 else x
def Ct.put (c : Ct) (x t : Int) : Ct :=
  if c.h = 3 ∧ c.wn = false then { c with wn := true, f := x }
  else { c with wn := false, l := Ct.full (if c.h = 3 then x * 256 + c.f else if c.h = 2 then x * 256 else x), g := t, st := false }
def Ct.getV (c : Ct) (t : Int) : Int := let V := if c.hd then c.v else c.val t; if c.up then V / 256 % 256 else V % 256
def Ct.getS (c : Ct) : Ct := { c with hd := c.hd && c.h == 3 && !c.up, up := c.up != (c.h == 3) }
theorem Ct.cmd_ok {c : Ct} {t x : Int} (h : c.ok t) (h0 : 0 ≤ x) (h1 : x < 256) : (c.cmd x t).ok t := by
  unfold Ct.cmd
  split
  · split
    · exact h
    · exact ⟨h.m, h.h, h.l, h.g, h.f, h.val⟩
  · refine ⟨?_, ?_, h.l, h.g, h.f, h.v⟩
    · show 0 ≤ (if 5 < x / 2 % 8 then x / 2 % 8 - 4 else x / 2 % 8) ∧ (if 5 < x / 2 % 8 then x / 2 % 8 - 4 else x / 2 % 8) ≤ 5
      split <;> omega
    · show 1 ≤ x / 16 % 4 ∧ x / 16 % 4 ≤ 3
      omega
theorem Ct.full_bd {x : Int} (h0 : 0 ≤ x) (h1 : x < 65536) : 1 ≤ Ct.full x ∧ Ct.full x ≤ 65536 := by unfold Ct.full; split <;> omega
theorem Ct.put_ok {c : Ct} {t x : Int} (h : c.ok t) (h0 : 0 ≤ x) (h1 : x < 256) : (c.put x t).ok t := by
  have hf := h.f
  unfold Ct.put
  split
  · exact ⟨h.m, h.h, h.l, h.g, ⟨h0, h1⟩, h.v⟩
  · refine ⟨h.m, h.h, Ct.full_bd ?_ ?_, ⟨?_, Int.le_refl _⟩, h.f, h.v⟩
    · split
      · omega
      · split <;> omega
    · split
      · omega
      · split <;> omega
    · have := h.g; show 0 ≤ t; omega
theorem Ct.getS_ok {c : Ct} {t : Int} (h : c.ok t) : c.getS.ok t := ⟨h.m, h.h, h.l, h.g, h.f, h.v⟩
theorem Ct.later {c : Ct} {t t' : Int} (h : c.ok t) (ht : t ≤ t') : c.ok t' := ⟨h.m, h.h, h.l, ⟨h.g.1, Int.le_trans h.g.2 ht⟩, h.f, h.v⟩
end Go.Proofs.Ytojmpdddfnkffaa.Pit

/- pit: a command to any counter. -/
namespace Go.Proofs.Ytojmpdddfnkffaa.Pit
open Go.RowKit
set_option linter.unusedVariables false
set_option linter.unusedSimpArgs false
set_option maxHeartbeats 1000000 in
theorem cmd0_hi {w : World} {b : Nat} {c0 c1 c2 : Ct} {t : Int} (H : Tm w b c0 c1 c2) (x hh mm : Int) (x0 : 0 ≤ x) (x1 : x < 256) (e0 : x / 64 = 0) (e1 : bits BinOp.and IntKind.u8 (x / 16) 3 = hh) (e2 : bits BinOp.and IntKind.u8 (x / 2) 7 = mm) (e3 : (hh == 0) = false) (hm : 5 < mm) (hm2 : 0 ≤ mm ∧ mm ≤ 7) :
    Calls Try.prog 97 #[.pointer (some ⟨b, 0, none⟩), .int .u8 x, .int .u64 t] w fun e w' => e = .returned (.tuple #[]) ∧ Tm w' b { c0 with h := hh, hd := false, wn := false, up := (hh == 2), st := true, m := mm - 4 } c1 c2 ∧ Keeps (· = b) w w' := by
  obtain ⟨k0, k1, k2, k3, k4, k5, k6, k7, k8, k9, kf, klt⟩ := H.f0
  clear k3 k4 k7 k9
  go_enter Try.func97, Try.ntmps97
  go_wp2_with fail
  all_goals
    go_returns
    exact ⟨rfl, by (unfold Tm Ct.cells at H ⊢; simp only [heap_drew, heap_set_map, putObj_cells, H, Option.map_some, List.cons_append, List.nil_append, List.set_cons_succ, List.set_cons_zero, Bool.and_false, Bool.and_true, Bool.true_and, Bool.false_and, Bool.not_true, Bool.not_false, Bool.bne_true, Bool.bne_false]), by (repeat' (first | (with_reducible exact Keeps.refl _ _) | (with_reducible assumption) | (with_reducible refine Keeps.setOne ?_ _ _) | (with_reducible refine Keeps.alloc ?_ _) | (with_reducible refine Keeps.drew ?_)))⟩
set_option maxHeartbeats 1000000 in
theorem cmd0_lo {w : World} {b : Nat} {c0 c1 c2 : Ct} {t : Int} (H : Tm w b c0 c1 c2) (x hh mm : Int) (x0 : 0 ≤ x) (x1 : x < 256) (e0 : x / 64 = 0) (e1 : bits BinOp.and IntKind.u8 (x / 16) 3 = hh) (e2 : bits BinOp.and IntKind.u8 (x / 2) 7 = mm) (e3 : (hh == 0) = false) (hm : mm ≤ 5) (hm2 : 0 ≤ mm ∧ mm ≤ 7) :
    Calls Try.prog 97 #[.pointer (some ⟨b, 0, none⟩), .int .u8 x, .int .u64 t] w fun e w' => e = .returned (.tuple #[]) ∧ Tm w' b { c0 with h := hh, hd := false, wn := false, up := (hh == 2), st := true, m := mm } c1 c2 ∧ Keeps (· = b) w w' := by
  obtain ⟨k0, k1, k2, k3, k4, k5, k6, k7, k8, k9, kf, klt⟩ := H.f0
  clear k3 k4 k7 k9
  go_enter Try.func97, Try.ntmps97
  go_wp2_with fail
  all_goals
    go_returns
    exact ⟨rfl, by (unfold Tm Ct.cells at H ⊢; simp only [heap_drew, heap_set_map, putObj_cells, H, Option.map_some, List.cons_append, List.nil_append, List.set_cons_succ, List.set_cons_zero, Bool.and_false, Bool.and_true, Bool.true_and, Bool.false_and, Bool.not_true, Bool.not_false, Bool.bne_true, Bool.bne_false]), by (repeat' (first | (with_reducible exact Keeps.refl _ _) | (with_reducible assumption) | (with_reducible refine Keeps.setOne ?_ _ _) | (with_reducible refine Keeps.alloc ?_ _) | (with_reducible refine Keeps.drew ?_)))⟩
set_option maxHeartbeats 1000000 in
theorem cmd0_held {w : World} {b : Nat} {c0 c1 c2 : Ct} {t : Int} (H : Tm w b c0 c1 c2) (x : Int) (x0 : 0 ≤ x) (x1 : x < 256) (e0 : x / 64 = 0) (e1 : bits BinOp.and IntKind.u8 (x / 16) 3 = 0) (e4 : c0.hd = true) :
    Calls Try.prog 97 #[.pointer (some ⟨b, 0, none⟩), .int .u8 x, .int .u64 t] w fun e w' => e = .returned (.tuple #[]) ∧ Tm w' b c0 c1 c2 ∧ Keeps (· = b) w w' := by
  obtain ⟨k0, k1, k2, k3, k4, k5, k6, k7, k8, k9, kf, klt⟩ := H.f0
  rw [e4] at k8
  go_enter Try.func97, Try.ntmps97
  go_wp2_with fail
  all_goals
    go_returns
    exact ⟨rfl, H, Keeps.refl _ _⟩
set_option maxHeartbeats 1000000 in
theorem cmd0_free {w : World} {b : Nat} {c0 c1 c2 : Ct} {t : Int} (H : Tm w b c0 c1 c2) (ok : c0.ok t) (ht : t < 18446744073709551616) (x : Int) (x0 : 0 ≤ x) (x1 : x < 256) (e0 : x / 64 = 0) (e1 : bits BinOp.and IntKind.u8 (x / 16) 3 = 0) (e4 : c0.hd = false) :
    Calls Try.prog 97 #[.pointer (some ⟨b, 0, none⟩), .int .u8 x, .int .u64 t] w fun e w' => e = .returned (.tuple #[]) ∧ Tm w' b { c0 with v := c0.val t, hd := true } c1 c2 ∧ Keeps (· = b) w w' := by
  obtain ⟨k0, k1, k2, k3, k4, k5, k6, k7, k8, k9, kf, klt⟩ := H.f0
  rw [e4] at k8
  go_enter Try.func97, Try.ntmps97
  go_wp2_with fail
  refine (now_ct0 H ok ht).mono ?_
  rintro e w1 ⟨rfl, hb⟩
  have H1 := H.below hb
  clear k0 k1 k2 k3 k4 k5 k6 k7 k8 k9 kf
  obtain ⟨k0, k1, k2, k3, k4, k5, k6, k7, k8, k9, kf, klt1⟩ := H1.f0
  have hK : Keeps (· = b) w w1 := Keeps.ofBelow hb
  go_wp2_with fail
  go_returns
  exact ⟨rfl, by (unfold Tm Ct.cells at H1 ⊢; simp only [heap_drew, heap_set_map, putObj_cells, H1, Option.map_some, List.cons_append, List.nil_append, List.set_cons_succ, List.set_cons_zero, Bool.and_false, Bool.and_true, Bool.true_and, Bool.false_and, Bool.not_true, Bool.not_false, Bool.bne_true, Bool.bne_false]), by (repeat' (first | (with_reducible exact Keeps.refl _ _) | (with_reducible assumption) | (with_reducible refine Keeps.setOne ?_ _ _) | (with_reducible refine Keeps.alloc ?_ _) | (with_reducible refine Keeps.drew ?_)))⟩
set_option maxHeartbeats 1000000 in
theorem cmd1_hi {w : World} {b : Nat} {c0 c1 c2 : Ct} {t : Int} (H : Tm w b c0 c1 c2) (x hh mm : Int) (x0 : 0 ≤ x) (x1 : x < 256) (e0 : x / 64 = 1) (e1 : bits BinOp.and IntKind.u8 (x / 16) 3 = hh) (e2 : bits BinOp.and IntKind.u8 (x / 2) 7 = mm) (e3 : (hh == 0) = false) (hm : 5 < mm) (hm2 : 0 ≤ mm ∧ mm ≤ 7) :
    Calls Try.prog 97 #[.pointer (some ⟨b, 0, none⟩), .int .u8 x, .int .u64 t] w fun e w' => e = .returned (.tuple #[]) ∧ Tm w' b c0 { c1 with h := hh, hd := false, wn := false, up := (hh == 2), st := true, m := mm - 4 } c2 ∧ Keeps (· = b) w w' := by
  obtain ⟨k0, k1, k2, k3, k4, k5, k6, k7, k8, k9, kf, klt⟩ := H.f1
  clear k3 k4 k7 k9
  go_enter Try.func97, Try.ntmps97
  go_wp2_with fail
  all_goals
    go_returns
    exact ⟨rfl, by (unfold Tm Ct.cells at H ⊢; simp only [heap_drew, heap_set_map, putObj_cells, H, Option.map_some, List.cons_append, List.nil_append, List.set_cons_succ, List.set_cons_zero, Bool.and_false, Bool.and_true, Bool.true_and, Bool.false_and, Bool.not_true, Bool.not_false, Bool.bne_true, Bool.bne_false]), by (repeat' (first | (with_reducible exact Keeps.refl _ _) | (with_reducible assumption) | (with_reducible refine Keeps.setOne ?_ _ _) | (with_reducible refine Keeps.alloc ?_ _) | (with_reducible refine Keeps.drew ?_)))⟩
set_option maxHeartbeats 1000000 in
theorem cmd1_lo {w : World} {b : Nat} {c0 c1 c2 : Ct} {t : Int} (H : Tm w b c0 c1 c2) (x hh mm : Int) (x0 : 0 ≤ x) (x1 : x < 256) (e0 : x / 64 = 1) (e1 : bits BinOp.and IntKind.u8 (x / 16) 3 = hh) (e2 : bits BinOp.and IntKind.u8 (x / 2) 7 = mm) (e3 : (hh == 0) = false) (hm : mm ≤ 5) (hm2 : 0 ≤ mm ∧ mm ≤ 7) :
    Calls Try.prog 97 #[.pointer (some ⟨b, 0, none⟩), .int .u8 x, .int .u64 t] w fun e w' => e = .returned (.tuple #[]) ∧ Tm w' b c0 { c1 with h := hh, hd := false, wn := false, up := (hh == 2), st := true, m := mm } c2 ∧ Keeps (· = b) w w' := by
  obtain ⟨k0, k1, k2, k3, k4, k5, k6, k7, k8, k9, kf, klt⟩ := H.f1
  clear k3 k4 k7 k9
  go_enter Try.func97, Try.ntmps97
  go_wp2_with fail
  all_goals
    go_returns
    exact ⟨rfl, by (unfold Tm Ct.cells at H ⊢; simp only [heap_drew, heap_set_map, putObj_cells, H, Option.map_some, List.cons_append, List.nil_append, List.set_cons_succ, List.set_cons_zero, Bool.and_false, Bool.and_true, Bool.true_and, Bool.false_and, Bool.not_true, Bool.not_false, Bool.bne_true, Bool.bne_false]), by (repeat' (first | (with_reducible exact Keeps.refl _ _) | (with_reducible assumption) | (with_reducible refine Keeps.setOne ?_ _ _) | (with_reducible refine Keeps.alloc ?_ _) | (with_reducible refine Keeps.drew ?_)))⟩
set_option maxHeartbeats 1000000 in
theorem cmd1_held {w : World} {b : Nat} {c0 c1 c2 : Ct} {t : Int} (H : Tm w b c0 c1 c2) (x : Int) (x0 : 0 ≤ x) (x1 : x < 256) (e0 : x / 64 = 1) (e1 : bits BinOp.and IntKind.u8 (x / 16) 3 = 0) (e4 : c1.hd = true) :
    Calls Try.prog 97 #[.pointer (some ⟨b, 0, none⟩), .int .u8 x, .int .u64 t] w fun e w' => e = .returned (.tuple #[]) ∧ Tm w' b c0 c1 c2 ∧ Keeps (· = b) w w' := by
  obtain ⟨k0, k1, k2, k3, k4, k5, k6, k7, k8, k9, kf, klt⟩ := H.f1
  rw [e4] at k8
  go_enter Try.func97, Try.ntmps97
  go_wp2_with fail
  all_goals
    go_returns
    exact ⟨rfl, H, Keeps.refl _ _⟩
set_option maxHeartbeats 1000000 in
theorem cmd1_free {w : World} {b : Nat} {c0 c1 c2 : Ct} {t : Int} (H : Tm w b c0 c1 c2) (ok : c1.ok t) (ht : t < 18446744073709551616) (x : Int) (x0 : 0 ≤ x) (x1 : x < 256) (e0 : x / 64 = 1) (e1 : bits BinOp.and IntKind.u8 (x / 16) 3 = 0) (e4 : c1.hd = false) :
    Calls Try.prog 97 #[.pointer (some ⟨b, 0, none⟩), .int .u8 x, .int .u64 t] w fun e w' => e = .returned (.tuple #[]) ∧ Tm w' b c0 { c1 with v := c1.val t, hd := true } c2 ∧ Keeps (· = b) w w' := by
  obtain ⟨k0, k1, k2, k3, k4, k5, k6, k7, k8, k9, kf, klt⟩ := H.f1
  rw [e4] at k8
  go_enter Try.func97, Try.ntmps97
  go_wp2_with fail
  refine (now_ct1 H ok ht).mono ?_
  rintro e w1 ⟨rfl, hb⟩
  have H1 := H.below hb
  clear k0 k1 k2 k3 k4 k5 k6 k7 k8 k9 kf
  obtain ⟨k0, k1, k2, k3, k4, k5, k6, k7, k8, k9, kf, klt1⟩ := H1.f1
  have hK : Keeps (· = b) w w1 := Keeps.ofBelow hb
  go_wp2_with fail
  go_returns
  exact ⟨rfl, by (unfold Tm Ct.cells at H1 ⊢; simp only [heap_drew, heap_set_map, putObj_cells, H1, Option.map_some, List.cons_append, List.nil_append, List.set_cons_succ, List.set_cons_zero, Bool.and_false, Bool.and_true, Bool.true_and, Bool.false_and, Bool.not_true, Bool.not_false, Bool.bne_true, Bool.bne_false]), by (repeat' (first | (with_reducible exact Keeps.refl _ _) | (with_reducible assumption) | (with_reducible refine Keeps.setOne ?_ _ _) | (with_reducible refine Keeps.alloc ?_ _) | (with_reducible refine Keeps.drew ?_)))⟩
set_option maxHeartbeats 1000000 in
theorem cmd2_hi {w : World} {b : Nat} {c0 c1 c2 : Ct} {t : Int} (H : Tm w b c0 c1 c2) (x hh mm : Int) (x0 : 0 ≤ x) (x1 : x < 256) (e0 : x / 64 = 2) (e1 : bits BinOp.and IntKind.u8 (x / 16) 3 = hh) (e2 : bits BinOp.and IntKind.u8 (x / 2) 7 = mm) (e3 : (hh == 0) = false) (hm : 5 < mm) (hm2 : 0 ≤ mm ∧ mm ≤ 7) :
    Calls Try.prog 97 #[.pointer (some ⟨b, 0, none⟩), .int .u8 x, .int .u64 t] w fun e w' => e = .returned (.tuple #[]) ∧ Tm w' b c0 c1 { c2 with h := hh, hd := false, wn := false, up := (hh == 2), st := true, m := mm - 4 } ∧ Keeps (· = b) w w' := by
  obtain ⟨k0, k1, k2, k3, k4, k5, k6, k7, k8, k9, kf, klt⟩ := H.f2
  clear k3 k4 k7 k9
  go_enter Try.func97, Try.ntmps97
  go_wp2_with fail
  all_goals
    go_returns
    exact ⟨rfl, by (unfold Tm Ct.cells at H ⊢; simp only [heap_drew, heap_set_map, putObj_cells, H, Option.map_some, List.cons_append, List.nil_append, List.set_cons_succ, List.set_cons_zero, Bool.and_false, Bool.and_true, Bool.true_and, Bool.false_and, Bool.not_true, Bool.not_false, Bool.bne_true, Bool.bne_false]), by (repeat' (first | (with_reducible exact Keeps.refl _ _) | (with_reducible assumption) | (with_reducible refine Keeps.setOne ?_ _ _) | (with_reducible refine Keeps.alloc ?_ _) | (with_reducible refine Keeps.drew ?_)))⟩
set_option maxHeartbeats 1000000 in
theorem cmd2_lo {w : World} {b : Nat} {c0 c1 c2 : Ct} {t : Int} (H : Tm w b c0 c1 c2) (x hh mm : Int) (x0 : 0 ≤ x) (x1 : x < 256) (e0 : x / 64 = 2) (e1 : bits BinOp.and IntKind.u8 (x / 16) 3 = hh) (e2 : bits BinOp.and IntKind.u8 (x / 2) 7 = mm) (e3 : (hh == 0) = false) (hm : mm ≤ 5) (hm2 : 0 ≤ mm ∧ mm ≤ 7) :
    Calls Try.prog 97 #[.pointer (some ⟨b, 0, none⟩), .int .u8 x, .int .u64 t] w fun e w' => e = .returned (.tuple #[]) ∧ Tm w' b c0 c1 { c2 with h := hh, hd := false, wn := false, up := (hh == 2), st := true, m := mm } ∧ Keeps (· = b) w w' := by
  obtain ⟨k0, k1, k2, k3, k4, k5, k6, k7, k8, k9, kf, klt⟩ := H.f2
  clear k3 k4 k7 k9
  go_enter Try.func97, Try.ntmps97
  go_wp2_with fail
  all_goals
    go_returns
    exact ⟨rfl, by (unfold Tm Ct.cells at H ⊢; simp only [heap_drew, heap_set_map, putObj_cells, H, Option.map_some, List.cons_append, List.nil_append, List.set_cons_succ, List.set_cons_zero, Bool.and_false, Bool.and_true, Bool.true_and, Bool.false_and, Bool.not_true, Bool.not_false, Bool.bne_true, Bool.bne_false]), by (repeat' (first | (with_reducible exact Keeps.refl _ _) | (with_reducible assumption) | (with_reducible refine Keeps.setOne ?_ _ _) | (with_reducible refine Keeps.alloc ?_ _) | (with_reducible refine Keeps.drew ?_)))⟩
set_option maxHeartbeats 1000000 in
theorem cmd2_held {w : World} {b : Nat} {c0 c1 c2 : Ct} {t : Int} (H : Tm w b c0 c1 c2) (x : Int) (x0 : 0 ≤ x) (x1 : x < 256) (e0 : x / 64 = 2) (e1 : bits BinOp.and IntKind.u8 (x / 16) 3 = 0) (e4 : c2.hd = true) :
    Calls Try.prog 97 #[.pointer (some ⟨b, 0, none⟩), .int .u8 x, .int .u64 t] w fun e w' => e = .returned (.tuple #[]) ∧ Tm w' b c0 c1 c2 ∧ Keeps (· = b) w w' := by
  obtain ⟨k0, k1, k2, k3, k4, k5, k6, k7, k8, k9, kf, klt⟩ := H.f2
  rw [e4] at k8
  go_enter Try.func97, Try.ntmps97
  go_wp2_with fail
  all_goals
    go_returns
    exact ⟨rfl, H, Keeps.refl _ _⟩
set_option maxHeartbeats 1000000 in
theorem cmd2_free {w : World} {b : Nat} {c0 c1 c2 : Ct} {t : Int} (H : Tm w b c0 c1 c2) (ok : c2.ok t) (ht : t < 18446744073709551616) (x : Int) (x0 : 0 ≤ x) (x1 : x < 256) (e0 : x / 64 = 2) (e1 : bits BinOp.and IntKind.u8 (x / 16) 3 = 0) (e4 : c2.hd = false) :
    Calls Try.prog 97 #[.pointer (some ⟨b, 0, none⟩), .int .u8 x, .int .u64 t] w fun e w' => e = .returned (.tuple #[]) ∧ Tm w' b c0 c1 { c2 with v := c2.val t, hd := true } ∧ Keeps (· = b) w w' := by
  obtain ⟨k0, k1, k2, k3, k4, k5, k6, k7, k8, k9, kf, klt⟩ := H.f2
  rw [e4] at k8
  go_enter Try.func97, Try.ntmps97
  go_wp2_with fail
  refine (now_ct2 H ok ht).mono ?_
  rintro e w1 ⟨rfl, hb⟩
  have H1 := H.below hb
  clear k0 k1 k2 k3 k4 k5 k6 k7 k8 k9 kf
  obtain ⟨k0, k1, k2, k3, k4, k5, k6, k7, k8, k9, kf, klt1⟩ := H1.f2
  have hK : Keeps (· = b) w w1 := Keeps.ofBelow hb
  go_wp2_with fail
  go_returns
  exact ⟨rfl, by (unfold Tm Ct.cells at H1 ⊢; simp only [heap_drew, heap_set_map, putObj_cells, H1, Option.map_some, List.cons_append, List.nil_append, List.set_cons_succ, List.set_cons_zero, Bool.and_false, Bool.and_true, Bool.true_and, Bool.false_and, Bool.not_true, Bool.not_false, Bool.bne_true, Bool.bne_false]), by (repeat' (first | (with_reducible exact Keeps.refl _ _) | (with_reducible assumption) | (with_reducible refine Keeps.setOne ?_ _ _) | (with_reducible refine Keeps.alloc ?_ _) | (with_reducible refine Keeps.drew ?_)))⟩
set_option maxHeartbeats 1000000 in
theorem cmd3 {w : World} {b : Nat} {c0 c1 c2 : Ct} {t : Int} (H : Tm w b c0 c1 c2) (x : Int) (x0 : 0 ≤ x) (x1 : x < 256) (e0 : x / 64 = 3) :
    Calls Try.prog 97 #[.pointer (some ⟨b, 0, none⟩), .int .u8 x, .int .u64 t] w fun e w' => e = .returned (.tuple #[]) ∧ Tm w' b c0 c1 c2 ∧ Keeps (· = b) w w' := by
  go_enter Try.func97, Try.ntmps97
  go_wp2_with fail
  all_goals
    go_returns
    exact ⟨rfl, H, Keeps.refl _ _⟩
set_option maxHeartbeats 1000000 in
theorem cmd_ct0 {w : World} {b : Nat} {c0 c1 c2 : Ct} {t : Int} (H : Tm w b c0 c1 c2) (ok : c0.ok t) (ht : t < 18446744073709551616) (x : Int) (x0 : 0 ≤ x) (x1 : x < 256) (e0 : x / 64 = 0) :
    Calls Try.prog 97 #[.pointer (some ⟨b, 0, none⟩), .int .u8 x, .int .u64 t] w fun e w' => e = .returned (.tuple #[]) ∧ Tm w' b (c0.cmd x t) c1 c2 ∧ Keeps (· = b) w w' := by
  have b1 := and_3 (x / 16) (by omega) (by omega)
  have b2 := and_7 (x / 2) (by omega) (by omega)
  unfold Ct.cmd
  by_cases hz : x / 16 % 4 = 0
  · rw [if_pos hz]
    cases h8 : c0.hd
    · exact cmd0_free H ok ht x x0 x1 e0 (b1.trans hz) h8
    · exact cmd0_held H x x0 x1 e0 (b1.trans hz) h8
  · rw [if_neg hz]
    by_cases h5 : 5 < x / 2 % 8
    · rw [if_pos h5]
      exact cmd0_hi H x _ _ x0 x1 e0 b1 b2 (by simpa using hz) h5 (by omega)
    · rw [if_neg h5]
      exact cmd0_lo H x _ _ x0 x1 e0 b1 b2 (by simpa using hz) (by omega) (by omega)
set_option maxHeartbeats 1000000 in
theorem cmd_ct1 {w : World} {b : Nat} {c0 c1 c2 : Ct} {t : Int} (H : Tm w b c0 c1 c2) (ok : c1.ok t) (ht : t < 18446744073709551616) (x : Int) (x0 : 0 ≤ x) (x1 : x < 256) (e0 : x / 64 = 1) :
    Calls Try.prog 97 #[.pointer (some ⟨b, 0, none⟩), .int .u8 x, .int .u64 t] w fun e w' => e = .returned (.tuple #[]) ∧ Tm w' b c0 (c1.cmd x t) c2 ∧ Keeps (· = b) w w' := by
  have b1 := and_3 (x / 16) (by omega) (by omega)
  have b2 := and_7 (x / 2) (by omega) (by omega)
  unfold Ct.cmd
  by_cases hz : x / 16 % 4 = 0
  · rw [if_pos hz]
    cases h8 : c1.hd
    · exact cmd1_free H ok ht x x0 x1 e0 (b1.trans hz) h8
    · exact cmd1_held H x x0 x1 e0 (b1.trans hz) h8
  · rw [if_neg hz]
    by_cases h5 : 5 < x / 2 % 8
    · rw [if_pos h5]
      exact cmd1_hi H x _ _ x0 x1 e0 b1 b2 (by simpa using hz) h5 (by omega)
    · rw [if_neg h5]
      exact cmd1_lo H x _ _ x0 x1 e0 b1 b2 (by simpa using hz) (by omega) (by omega)
set_option maxHeartbeats 1000000 in
theorem cmd_ct2 {w : World} {b : Nat} {c0 c1 c2 : Ct} {t : Int} (H : Tm w b c0 c1 c2) (ok : c2.ok t) (ht : t < 18446744073709551616) (x : Int) (x0 : 0 ≤ x) (x1 : x < 256) (e0 : x / 64 = 2) :
    Calls Try.prog 97 #[.pointer (some ⟨b, 0, none⟩), .int .u8 x, .int .u64 t] w fun e w' => e = .returned (.tuple #[]) ∧ Tm w' b c0 c1 (c2.cmd x t) ∧ Keeps (· = b) w w' := by
  have b1 := and_3 (x / 16) (by omega) (by omega)
  have b2 := and_7 (x / 2) (by omega) (by omega)
  unfold Ct.cmd
  by_cases hz : x / 16 % 4 = 0
  · rw [if_pos hz]
    cases h8 : c2.hd
    · exact cmd2_free H ok ht x x0 x1 e0 (b1.trans hz) h8
    · exact cmd2_held H x x0 x1 e0 (b1.trans hz) h8
  · rw [if_neg hz]
    by_cases h5 : 5 < x / 2 % 8
    · rw [if_pos h5]
      exact cmd2_hi H x _ _ x0 x1 e0 b1 b2 (by simpa using hz) h5 (by omega)
    · rw [if_neg h5]
      exact cmd2_lo H x _ _ x0 x1 e0 b1 b2 (by simpa using hz) (by omega) (by omega)
end Go.Proofs.Ytojmpdddfnkffaa.Pit

/- pit: a byte put to any counter. -/
namespace Go.Proofs.Ytojmpdddfnkffaa.Pit
open Go.RowKit
set_option linter.unusedVariables false
set_option linter.unusedSimpArgs false
theorem or_join_u64 (x f : Int) (x0 : 0 ≤ x) (x1 : x < 256) (f0 : 0 ≤ f) (f1 : f < 256) : bits BinOp.or IntKind.u64 (x * 256) f = x * 256 + f := by
  obtain ⟨a, rfl⟩ := Int.eq_ofNat_of_zero_le x0
  obtain ⟨b, rfl⟩ := Int.eq_ofNat_of_zero_le f0
  rw [u64_or _ _ (by omega) (by omega) (by omega) (by omega)]
  have e : ((a : Int) * 256).toNat = a * 256 := by omega
  rw [e, Int.toNat_natCast, nat_join 8 (a * 256) b (by omega) (by omega)]
  simp

set_option maxHeartbeats 1000000 in
theorem put0_first {w : World} {b : Nat} {c0 c1 c2 : Ct} {t : Int} (H : Tm w b c0 c1 c2) (x : Int) (x0 : 0 ≤ x) (x1 : x < 256) (e1 : c0.h = 3) (e2 : c0.wn = false) :
    Calls Try.prog 75 #[.pointer (some ⟨b, 0, none⟩), .int .i64 0, .int .u8 x, .int .u64 t] w fun e w' => e = .returned (.int .i64 0) ∧ Tm w' b { c0 with wn := true, f := x } c1 c2 ∧ Keeps (· = b) w w' := by
  obtain ⟨k0, k1, k2, k3, k4, k5, k6, k7, k8, k9, kf, klt⟩ := H.f0
  rw [e1] at k1
  rw [e2] at k5
  go_enter Try.func75, Try.ntmps75
  go_wp2_with fail
  all_goals
    go_ret
    exact ⟨rfl, by (unfold Tm Ct.cells at H ⊢; simp only [heap_drew, heap_set_map, putObj_cells, H, Option.map_some, List.cons_append, List.nil_append, List.set_cons_succ, List.set_cons_zero, Bool.and_false, Bool.and_true, Bool.true_and, Bool.false_and, Bool.not_true, Bool.not_false, Bool.bne_true, Bool.bne_false]), by (repeat' (first | (with_reducible exact Keeps.refl _ _) | (with_reducible assumption) | (with_reducible refine Keeps.setOne ?_ _ _) | (with_reducible refine Keeps.alloc ?_ _) | (with_reducible refine Keeps.drew ?_)))⟩
set_option maxHeartbeats 1000000 in
theorem put0_second {w : World} {b : Nat} {c0 c1 c2 : Ct} {t : Int} (H : Tm w b c0 c1 c2) (x : Int) (x0 : 0 ≤ x) (x1 : x < 256) (f0 : 0 ≤ c0.f) (f1 : c0.f < 256) (e1 : c0.h = 3) (e2 : c0.wn = true) (hz : ((x * 256 + c0.f) == 0) = false) :
    Calls Try.prog 75 #[.pointer (some ⟨b, 0, none⟩), .int .i64 0, .int .u8 x, .int .u64 t] w fun e w' => e = .returned (.int .i64 0) ∧ Tm w' b { c0 with wn := false, l := (x * 256 + c0.f), g := t, st := false } c1 c2 ∧ Keeps (· = b) w w' := by
  obtain ⟨k0, k1, k2, k3, k4, k5, k6, k7, k8, k9, kf, klt⟩ := H.f0
  rw [e1] at k1
  rw [e2] at k5
  have ej := or_join_u64 x c0.f x0 x1 f0 f1
  go_enter Try.func75, Try.ntmps75
  go_wp2_with fail
  all_goals
    go_ret
    exact ⟨rfl, by (unfold Tm Ct.cells at H ⊢; simp only [heap_drew, heap_set_map, putObj_cells, H, Option.map_some, List.cons_append, List.nil_append, List.set_cons_succ, List.set_cons_zero, Bool.and_false, Bool.and_true, Bool.true_and, Bool.false_and, Bool.not_true, Bool.not_false, Bool.bne_true, Bool.bne_false]), by (repeat' (first | (with_reducible exact Keeps.refl _ _) | (with_reducible assumption) | (with_reducible refine Keeps.setOne ?_ _ _) | (with_reducible refine Keeps.alloc ?_ _) | (with_reducible refine Keeps.drew ?_)))⟩
set_option maxHeartbeats 1000000 in
theorem put0_second0 {w : World} {b : Nat} {c0 c1 c2 : Ct} {t : Int} (H : Tm w b c0 c1 c2) (x : Int) (x0 : 0 ≤ x) (x1 : x < 256) (f0 : 0 ≤ c0.f) (f1 : c0.f < 256) (e1 : c0.h = 3) (e2 : c0.wn = true) (hz : ((x * 256 + c0.f) == 0) = true) :
    Calls Try.prog 75 #[.pointer (some ⟨b, 0, none⟩), .int .i64 0, .int .u8 x, .int .u64 t] w fun e w' => e = .returned (.int .i64 0) ∧ Tm w' b { c0 with wn := false, l := 65536, g := t, st := false } c1 c2 ∧ Keeps (· = b) w w' := by
  obtain ⟨k0, k1, k2, k3, k4, k5, k6, k7, k8, k9, kf, klt⟩ := H.f0
  rw [e1] at k1
  rw [e2] at k5
  have ej := or_join_u64 x c0.f x0 x1 f0 f1
  go_enter Try.func75, Try.ntmps75
  go_wp2_with fail
  all_goals
    go_ret
    exact ⟨rfl, by (unfold Tm Ct.cells at H ⊢; simp only [heap_drew, heap_set_map, putObj_cells, H, Option.map_some, List.cons_append, List.nil_append, List.set_cons_succ, List.set_cons_zero, Bool.and_false, Bool.and_true, Bool.true_and, Bool.false_and, Bool.not_true, Bool.not_false, Bool.bne_true, Bool.bne_false]), by (repeat' (first | (with_reducible exact Keeps.refl _ _) | (with_reducible assumption) | (with_reducible refine Keeps.setOne ?_ _ _) | (with_reducible refine Keeps.alloc ?_ _) | (with_reducible refine Keeps.drew ?_)))⟩
set_option maxHeartbeats 1000000 in
theorem put0_two {w : World} {b : Nat} {c0 c1 c2 : Ct} {t : Int} (H : Tm w b c0 c1 c2) (x : Int) (x0 : 0 ≤ x) (x1 : x < 256) (f0 : 0 ≤ c0.f) (f1 : c0.f < 256) (e1 : c0.h = 2) (hz : ((x * 256) == 0) = false) :
    Calls Try.prog 75 #[.pointer (some ⟨b, 0, none⟩), .int .i64 0, .int .u8 x, .int .u64 t] w fun e w' => e = .returned (.int .i64 0) ∧ Tm w' b { c0 with wn := false, l := (x * 256), g := t, st := false } c1 c2 ∧ Keeps (· = b) w w' := by
  obtain ⟨k0, k1, k2, k3, k4, k5, k6, k7, k8, k9, kf, klt⟩ := H.f0
  rw [e1] at k1
  go_enter Try.func75, Try.ntmps75
  go_wp2_with fail
  all_goals
    go_ret
    exact ⟨rfl, by (unfold Tm Ct.cells at H ⊢; simp only [heap_drew, heap_set_map, putObj_cells, H, Option.map_some, List.cons_append, List.nil_append, List.set_cons_succ, List.set_cons_zero, Bool.and_false, Bool.and_true, Bool.true_and, Bool.false_and, Bool.not_true, Bool.not_false, Bool.bne_true, Bool.bne_false]), by (repeat' (first | (with_reducible exact Keeps.refl _ _) | (with_reducible assumption) | (with_reducible refine Keeps.setOne ?_ _ _) | (with_reducible refine Keeps.alloc ?_ _) | (with_reducible refine Keeps.drew ?_)))⟩
set_option maxHeartbeats 1000000 in
theorem put0_two0 {w : World} {b : Nat} {c0 c1 c2 : Ct} {t : Int} (H : Tm w b c0 c1 c2) (x : Int) (x0 : 0 ≤ x) (x1 : x < 256) (f0 : 0 ≤ c0.f) (f1 : c0.f < 256) (e1 : c0.h = 2) (hz : ((x * 256) == 0) = true) :
    Calls Try.prog 75 #[.pointer (some ⟨b, 0, none⟩), .int .i64 0, .int .u8 x, .int .u64 t] w fun e w' => e = .returned (.int .i64 0) ∧ Tm w' b { c0 with wn := false, l := 65536, g := t, st := false } c1 c2 ∧ Keeps (· = b) w w' := by
  obtain ⟨k0, k1, k2, k3, k4, k5, k6, k7, k8, k9, kf, klt⟩ := H.f0
  rw [e1] at k1
  go_enter Try.func75, Try.ntmps75
  go_wp2_with fail
  all_goals
    go_ret
    exact ⟨rfl, by (unfold Tm Ct.cells at H ⊢; simp only [heap_drew, heap_set_map, putObj_cells, H, Option.map_some, List.cons_append, List.nil_append, List.set_cons_succ, List.set_cons_zero, Bool.and_false, Bool.and_true, Bool.true_and, Bool.false_and, Bool.not_true, Bool.not_false, Bool.bne_true, Bool.bne_false]), by (repeat' (first | (with_reducible exact Keeps.refl _ _) | (with_reducible assumption) | (with_reducible refine Keeps.setOne ?_ _ _) | (with_reducible refine Keeps.alloc ?_ _) | (with_reducible refine Keeps.drew ?_)))⟩
set_option maxHeartbeats 1000000 in
theorem put0_one {w : World} {b : Nat} {c0 c1 c2 : Ct} {t : Int} (H : Tm w b c0 c1 c2) (x : Int) (x0 : 0 ≤ x) (x1 : x < 256) (f0 : 0 ≤ c0.f) (f1 : c0.f < 256) (e1 : c0.h = 1) (hz : (x == 0) = false) :
    Calls Try.prog 75 #[.pointer (some ⟨b, 0, none⟩), .int .i64 0, .int .u8 x, .int .u64 t] w fun e w' => e = .returned (.int .i64 0) ∧ Tm w' b { c0 with wn := false, l := x, g := t, st := false } c1 c2 ∧ Keeps (· = b) w w' := by
  obtain ⟨k0, k1, k2, k3, k4, k5, k6, k7, k8, k9, kf, klt⟩ := H.f0
  rw [e1] at k1
  go_enter Try.func75, Try.ntmps75
  go_wp2_with fail
  all_goals
    go_ret
    exact ⟨rfl, by (unfold Tm Ct.cells at H ⊢; simp only [heap_drew, heap_set_map, putObj_cells, H, Option.map_some, List.cons_append, List.nil_append, List.set_cons_succ, List.set_cons_zero, Bool.and_false, Bool.and_true, Bool.true_and, Bool.false_and, Bool.not_true, Bool.not_false, Bool.bne_true, Bool.bne_false]), by (repeat' (first | (with_reducible exact Keeps.refl _ _) | (with_reducible assumption) | (with_reducible refine Keeps.setOne ?_ _ _) | (with_reducible refine Keeps.alloc ?_ _) | (with_reducible refine Keeps.drew ?_)))⟩
set_option maxHeartbeats 1000000 in
theorem put0_one0 {w : World} {b : Nat} {c0 c1 c2 : Ct} {t : Int} (H : Tm w b c0 c1 c2) (x : Int) (x0 : 0 ≤ x) (x1 : x < 256) (f0 : 0 ≤ c0.f) (f1 : c0.f < 256) (e1 : c0.h = 1) (hz : (x == 0) = true) :
    Calls Try.prog 75 #[.pointer (some ⟨b, 0, none⟩), .int .i64 0, .int .u8 x, .int .u64 t] w fun e w' => e = .returned (.int .i64 0) ∧ Tm w' b { c0 with wn := false, l := 65536, g := t, st := false } c1 c2 ∧ Keeps (· = b) w w' := by
  obtain ⟨k0, k1, k2, k3, k4, k5, k6, k7, k8, k9, kf, klt⟩ := H.f0
  rw [e1] at k1
  go_enter Try.func75, Try.ntmps75
  go_wp2_with fail
  all_goals
    go_ret
    exact ⟨rfl, by (unfold Tm Ct.cells at H ⊢; simp only [heap_drew, heap_set_map, putObj_cells, H, Option.map_some, List.cons_append, List.nil_append, List.set_cons_succ, List.set_cons_zero, Bool.and_false, Bool.and_true, Bool.true_and, Bool.false_and, Bool.not_true, Bool.not_false, Bool.bne_true, Bool.bne_false]), by (repeat' (first | (with_reducible exact Keeps.refl _ _) | (with_reducible assumption) | (with_reducible refine Keeps.setOne ?_ _ _) | (with_reducible refine Keeps.alloc ?_ _) | (with_reducible refine Keeps.drew ?_)))⟩
set_option maxHeartbeats 1000000 in
theorem put_ct0 {w : World} {b : Nat} {c0 c1 c2 : Ct} {t : Int} (H : Tm w b c0 c1 c2) (ok : c0.ok t) (x : Int) (x0 : 0 ≤ x) (x1 : x < 256) :
    Calls Try.prog 75 #[.pointer (some ⟨b, 0, none⟩), .int .i64 0, .int .u8 x, .int .u64 t] w fun e w' => e = .returned (.int .i64 0) ∧ Tm w' b (c0.put x t) c1 c2 ∧ Keeps (· = b) w w' := by
  have hh := ok.h
  have hf := ok.f
  unfold Ct.put
  by_cases h1 : c0.h = 3 ∧ c0.wn = false
  · rw [if_pos h1]
    exact put0_first H x x0 x1 h1.1 h1.2
  · rw [if_neg h1]
    by_cases h3 : c0.h = 3
    · rw [if_pos h3]
      have hw : c0.wn = true := by
        cases h : c0.wn
        · exact absurd ⟨h3, h⟩ h1
        · rfl
      unfold Ct.full
      by_cases hz : x * 256 + c0.f = 0
      · rw [if_pos hz]; exact put0_second0 H x x0 x1 hf.1 hf.2 h3 hw (by simpa using hz)
      · rw [if_neg hz]; exact put0_second H x x0 x1 hf.1 hf.2 h3 hw (by simpa using hz)
    · rw [if_neg h3]
      by_cases h2 : c0.h = 2
      · rw [if_pos h2]
        unfold Ct.full
        by_cases hz : x * 256 = 0
        · rw [if_pos hz]; exact put0_two0 H x x0 x1 hf.1 hf.2 h2 (by rw [hz]; rfl)
        · rw [if_neg hz]; exact put0_two H x x0 x1 hf.1 hf.2 h2 (by rw [beq_eq_false_iff_ne]; exact hz)
      · rw [if_neg h2]
        unfold Ct.full
        by_cases hz : x = 0
        · rw [if_pos hz]; exact put0_one0 H x x0 x1 hf.1 hf.2 (by omega) (by simpa using hz)
        · rw [if_neg hz]; exact put0_one H x x0 x1 hf.1 hf.2 (by omega) (by simpa using hz)
set_option maxHeartbeats 1000000 in
theorem put1_first {w : World} {b : Nat} {c0 c1 c2 : Ct} {t : Int} (H : Tm w b c0 c1 c2) (x : Int) (x0 : 0 ≤ x) (x1 : x < 256) (e1 : c1.h = 3) (e2 : c1.wn = false) :
    Calls Try.prog 75 #[.pointer (some ⟨b, 0, none⟩), .int .i64 1, .int .u8 x, .int .u64 t] w fun e w' => e = .returned (.int .i64 0) ∧ Tm w' b c0 { c1 with wn := true, f := x } c2 ∧ Keeps (· = b) w w' := by
  obtain ⟨k0, k1, k2, k3, k4, k5, k6, k7, k8, k9, kf, klt⟩ := H.f1
  rw [e1] at k1
  rw [e2] at k5
  go_enter Try.func75, Try.ntmps75
  go_wp2_with fail
  all_goals
    go_ret
    exact ⟨rfl, by (unfold Tm Ct.cells at H ⊢; simp only [heap_drew, heap_set_map, putObj_cells, H, Option.map_some, List.cons_append, List.nil_append, List.set_cons_succ, List.set_cons_zero, Bool.and_false, Bool.and_true, Bool.true_and, Bool.false_and, Bool.not_true, Bool.not_false, Bool.bne_true, Bool.bne_false]), by (repeat' (first | (with_reducible exact Keeps.refl _ _) | (with_reducible assumption) | (with_reducible refine Keeps.setOne ?_ _ _) | (with_reducible refine Keeps.alloc ?_ _) | (with_reducible refine Keeps.drew ?_)))⟩
set_option maxHeartbeats 1000000 in
theorem put1_second {w : World} {b : Nat} {c0 c1 c2 : Ct} {t : Int} (H : Tm w b c0 c1 c2) (x : Int) (x0 : 0 ≤ x) (x1 : x < 256) (f0 : 0 ≤ c1.f) (f1 : c1.f < 256) (e1 : c1.h = 3) (e2 : c1.wn = true) (hz : ((x * 256 + c1.f) == 0) = false) :
    Calls Try.prog 75 #[.pointer (some ⟨b, 0, none⟩), .int .i64 1, .int .u8 x, .int .u64 t] w fun e w' => e = .returned (.int .i64 0) ∧ Tm w' b c0 { c1 with wn := false, l := (x * 256 + c1.f), g := t, st := false } c2 ∧ Keeps (· = b) w w' := by
  obtain ⟨k0, k1, k2, k3, k4, k5, k6, k7, k8, k9, kf, klt⟩ := H.f1
  rw [e1] at k1
  rw [e2] at k5
  have ej := or_join_u64 x c1.f x0 x1 f0 f1
  go_enter Try.func75, Try.ntmps75
  go_wp2_with fail
  all_goals
    go_ret
    exact ⟨rfl, by (unfold Tm Ct.cells at H ⊢; simp only [heap_drew, heap_set_map, putObj_cells, H, Option.map_some, List.cons_append, List.nil_append, List.set_cons_succ, List.set_cons_zero, Bool.and_false, Bool.and_true, Bool.true_and, Bool.false_and, Bool.not_true, Bool.not_false, Bool.bne_true, Bool.bne_false]), by (repeat' (first | (with_reducible exact Keeps.refl _ _) | (with_reducible assumption) | (with_reducible refine Keeps.setOne ?_ _ _) | (with_reducible refine Keeps.alloc ?_ _) | (with_reducible refine Keeps.drew ?_)))⟩
set_option maxHeartbeats 1000000 in
theorem put1_second0 {w : World} {b : Nat} {c0 c1 c2 : Ct} {t : Int} (H : Tm w b c0 c1 c2) (x : Int) (x0 : 0 ≤ x) (x1 : x < 256) (f0 : 0 ≤ c1.f) (f1 : c1.f < 256) (e1 : c1.h = 3) (e2 : c1.wn = true) (hz : ((x * 256 + c1.f) == 0) = true) :
    Calls Try.prog 75 #[.pointer (some ⟨b, 0, none⟩), .int .i64 1, .int .u8 x, .int .u64 t] w fun e w' => e = .returned (.int .i64 0) ∧ Tm w' b c0 { c1 with wn := false, l := 65536, g := t, st := false } c2 ∧ Keeps (· = b) w w' := by
  obtain ⟨k0, k1, k2, k3, k4, k5, k6, k7, k8, k9, kf, klt⟩ := H.f1
  rw [e1] at k1
  rw [e2] at k5
  have ej := or_join_u64 x c1.f x0 x1 f0 f1
  go_enter Try.func75, Try.ntmps75
  go_wp2_with fail
  all_goals
    go_ret
    exact ⟨rfl, by (unfold Tm Ct.cells at H ⊢; simp only [heap_drew, heap_set_map, putObj_cells, H, Option.map_some, List.cons_append, List.nil_append, List.set_cons_succ, List.set_cons_zero, Bool.and_false, Bool.and_true, Bool.true_and, Bool.false_and, Bool.not_true, Bool.not_false, Bool.bne_true, Bool.bne_false]), by (repeat' (first | (with_reducible exact Keeps.refl _ _) | (with_reducible assumption) | (with_reducible refine Keeps.setOne ?_ _ _) | (with_reducible refine Keeps.alloc ?_ _) | (with_reducible refine Keeps.drew ?_)))⟩
set_option maxHeartbeats 1000000 in
theorem put1_two {w : World} {b : Nat} {c0 c1 c2 : Ct} {t : Int} (H : Tm w b c0 c1 c2) (x : Int) (x0 : 0 ≤ x) (x1 : x < 256) (f0 : 0 ≤ c1.f) (f1 : c1.f < 256) (e1 : c1.h = 2) (hz : ((x * 256) == 0) = false) :
    Calls Try.prog 75 #[.pointer (some ⟨b, 0, none⟩), .int .i64 1, .int .u8 x, .int .u64 t] w fun e w' => e = .returned (.int .i64 0) ∧ Tm w' b c0 { c1 with wn := false, l := (x * 256), g := t, st := false } c2 ∧ Keeps (· = b) w w' := by
  obtain ⟨k0, k1, k2, k3, k4, k5, k6, k7, k8, k9, kf, klt⟩ := H.f1
  rw [e1] at k1
  go_enter Try.func75, Try.ntmps75
  go_wp2_with fail
  all_goals
    go_ret
    exact ⟨rfl, by (unfold Tm Ct.cells at H ⊢; simp only [heap_drew, heap_set_map, putObj_cells, H, Option.map_some, List.cons_append, List.nil_append, List.set_cons_succ, List.set_cons_zero, Bool.and_false, Bool.and_true, Bool.true_and, Bool.false_and, Bool.not_true, Bool.not_false, Bool.bne_true, Bool.bne_false]), by (repeat' (first | (with_reducible exact Keeps.refl _ _) | (with_reducible assumption) | (with_reducible refine Keeps.setOne ?_ _ _) | (with_reducible refine Keeps.alloc ?_ _) | (with_reducible refine Keeps.drew ?_)))⟩
set_option maxHeartbeats 1000000 in
theorem put1_two0 {w : World} {b : Nat} {c0 c1 c2 : Ct} {t : Int} (H : Tm w b c0 c1 c2) (x : Int) (x0 : 0 ≤ x) (x1 : x < 256) (f0 : 0 ≤ c1.f) (f1 : c1.f < 256) (e1 : c1.h = 2) (hz : ((x * 256) == 0) = true) :
    Calls Try.prog 75 #[.pointer (some ⟨b, 0, none⟩), .int .i64 1, .int .u8 x, .int .u64 t] w fun e w' => e = .returned (.int .i64 0) ∧ Tm w' b c0 { c1 with wn := false, l := 65536, g := t, st := false } c2 ∧ Keeps (· = b) w w' := by
  obtain ⟨k0, k1, k2, k3, k4, k5, k6, k7, k8, k9, kf, klt⟩ := H.f1
  rw [e1] at k1
  go_enter Try.func75, Try.ntmps75
  go_wp2_with fail
  all_goals
    go_ret
    exact ⟨rfl, by (unfold Tm Ct.cells at H ⊢; simp only [heap_drew, heap_set_map, putObj_cells, H, Option.map_some, List.cons_append, List.nil_append, List.set_cons_succ, List.set_cons_zero, Bool.and_false, Bool.and_true, Bool.true_and, Bool.false_and, Bool.not_true, Bool.not_false, Bool.bne_true, Bool.bne_false]), by (repeat' (first | (with_reducible exact Keeps.refl _ _) | (with_reducible assumption) | (with_reducible refine Keeps.setOne ?_ _ _) | (with_reducible refine Keeps.alloc ?_ _) | (with_reducible refine Keeps.drew ?_)))⟩
set_option maxHeartbeats 1000000 in
theorem put1_one {w : World} {b : Nat} {c0 c1 c2 : Ct} {t : Int} (H : Tm w b c0 c1 c2) (x : Int) (x0 : 0 ≤ x) (x1 : x < 256) (f0 : 0 ≤ c1.f) (f1 : c1.f < 256) (e1 : c1.h = 1) (hz : (x == 0) = false) :
    Calls Try.prog 75 #[.pointer (some ⟨b, 0, none⟩), .int .i64 1, .int .u8 x, .int .u64 t] w fun e w' => e = .returned (.int .i64 0) ∧ Tm w' b c0 { c1 with wn := false, l := x, g := t, st := false } c2 ∧ Keeps (· = b) w w' := by
  obtain ⟨k0, k1, k2, k3, k4, k5, k6, k7, k8, k9, kf, klt⟩ := H.f1
  rw [e1] at k1
  go_enter Try.func75, Try.ntmps75
  go_wp2_with fail
  all_goals
    go_ret
    exact ⟨rfl, by (unfold Tm Ct.cells at H ⊢; simp only [heap_drew, heap_set_map, putObj_cells, H, Option.map_some, List.cons_append, List.nil_append, List.set_cons_succ, List.set_cons_zero, Bool.and_false, Bool.and_true, Bool.true_and, Bool.false_and, Bool.not_true, Bool.not_false, Bool.bne_true, Bool.bne_false]), by (repeat' (first | (with_reducible exact Keeps.refl _ _) | (with_reducible assumption) | (with_reducible refine Keeps.setOne ?_ _ _) | (with_reducible refine Keeps.alloc ?_ _) | (with_reducible refine Keeps.drew ?_)))⟩
set_option maxHeartbeats 1000000 in
theorem put1_one0 {w : World} {b : Nat} {c0 c1 c2 : Ct} {t : Int} (H : Tm w b c0 c1 c2) (x : Int) (x0 : 0 ≤ x) (x1 : x < 256) (f0 : 0 ≤ c1.f) (f1 : c1.f < 256) (e1 : c1.h = 1) (hz : (x == 0) = true) :
    Calls Try.prog 75 #[.pointer (some ⟨b, 0, none⟩), .int .i64 1, .int .u8 x, .int .u64 t] w fun e w' => e = .returned (.int .i64 0) ∧ Tm w' b c0 { c1 with wn := false, l := 65536, g := t, st := false } c2 ∧ Keeps (· = b) w w' := by
  obtain ⟨k0, k1, k2, k3, k4, k5, k6, k7, k8, k9, kf, klt⟩ := H.f1
  rw [e1] at k1
  go_enter Try.func75, Try.ntmps75
  go_wp2_with fail
  all_goals
    go_ret
    exact ⟨rfl, by (unfold Tm Ct.cells at H ⊢; simp only [heap_drew, heap_set_map, putObj_cells, H, Option.map_some, List.cons_append, List.nil_append, List.set_cons_succ, List.set_cons_zero, Bool.and_false, Bool.and_true, Bool.true_and, Bool.false_and, Bool.not_true, Bool.not_false, Bool.bne_true, Bool.bne_false]), by (repeat' (first | (with_reducible exact Keeps.refl _ _) | (with_reducible assumption) | (with_reducible refine Keeps.setOne ?_ _ _) | (with_reducible refine Keeps.alloc ?_ _) | (with_reducible refine Keeps.drew ?_)))⟩
set_option maxHeartbeats 1000000 in
theorem put_ct1 {w : World} {b : Nat} {c0 c1 c2 : Ct} {t : Int} (H : Tm w b c0 c1 c2) (ok : c1.ok t) (x : Int) (x0 : 0 ≤ x) (x1 : x < 256) :
    Calls Try.prog 75 #[.pointer (some ⟨b, 0, none⟩), .int .i64 1, .int .u8 x, .int .u64 t] w fun e w' => e = .returned (.int .i64 0) ∧ Tm w' b c0 (c1.put x t) c2 ∧ Keeps (· = b) w w' := by
  have hh := ok.h
  have hf := ok.f
  unfold Ct.put
  by_cases h1 : c1.h = 3 ∧ c1.wn = false
  · rw [if_pos h1]
    exact put1_first H x x0 x1 h1.1 h1.2
  · rw [if_neg h1]
    by_cases h3 : c1.h = 3
    · rw [if_pos h3]
      have hw : c1.wn = true := by
        cases h : c1.wn
        · exact absurd ⟨h3, h⟩ h1
        · rfl
      unfold Ct.full
      by_cases hz : x * 256 + c1.f = 0
      · rw [if_pos hz]; exact put1_second0 H x x0 x1 hf.1 hf.2 h3 hw (by simpa using hz)
      · rw [if_neg hz]; exact put1_second H x x0 x1 hf.1 hf.2 h3 hw (by simpa using hz)
    · rw [if_neg h3]
      by_cases h2 : c1.h = 2
      · rw [if_pos h2]
        unfold Ct.full
        by_cases hz : x * 256 = 0
        · rw [if_pos hz]; exact put1_two0 H x x0 x1 hf.1 hf.2 h2 (by rw [hz]; rfl)
        · rw [if_neg hz]; exact put1_two H x x0 x1 hf.1 hf.2 h2 (by rw [beq_eq_false_iff_ne]; exact hz)
      · rw [if_neg h2]
        unfold Ct.full
        by_cases hz : x = 0
        · rw [if_pos hz]; exact put1_one0 H x x0 x1 hf.1 hf.2 (by omega) (by simpa using hz)
        · rw [if_neg hz]; exact put1_one H x x0 x1 hf.1 hf.2 (by omega) (by simpa using hz)
set_option maxHeartbeats 1000000 in
theorem put2_first {w : World} {b : Nat} {c0 c1 c2 : Ct} {t : Int} (H : Tm w b c0 c1 c2) (x : Int) (x0 : 0 ≤ x) (x1 : x < 256) (e1 : c2.h = 3) (e2 : c2.wn = false) :
    Calls Try.prog 75 #[.pointer (some ⟨b, 0, none⟩), .int .i64 2, .int .u8 x, .int .u64 t] w fun e w' => e = .returned (.int .i64 0) ∧ Tm w' b c0 c1 { c2 with wn := true, f := x } ∧ Keeps (· = b) w w' := by
  obtain ⟨k0, k1, k2, k3, k4, k5, k6, k7, k8, k9, kf, klt⟩ := H.f2
  rw [e1] at k1
  rw [e2] at k5
  go_enter Try.func75, Try.ntmps75
  go_wp2_with fail
  all_goals
    go_ret
    exact ⟨rfl, by (unfold Tm Ct.cells at H ⊢; simp only [heap_drew, heap_set_map, putObj_cells, H, Option.map_some, List.cons_append, List.nil_append, List.set_cons_succ, List.set_cons_zero, Bool.and_false, Bool.and_true, Bool.true_and, Bool.false_and, Bool.not_true, Bool.not_false, Bool.bne_true, Bool.bne_false]), by (repeat' (first | (with_reducible exact Keeps.refl _ _) | (with_reducible assumption) | (with_reducible refine Keeps.setOne ?_ _ _) | (with_reducible refine Keeps.alloc ?_ _) | (with_reducible refine Keeps.drew ?_)))⟩
set_option maxHeartbeats 1000000 in
theorem put2_second {w : World} {b : Nat} {c0 c1 c2 : Ct} {t : Int} (H : Tm w b c0 c1 c2) (x : Int) (x0 : 0 ≤ x) (x1 : x < 256) (f0 : 0 ≤ c2.f) (f1 : c2.f < 256) (e1 : c2.h = 3) (e2 : c2.wn = true) (hz : ((x * 256 + c2.f) == 0) = false) :
    Calls Try.prog 75 #[.pointer (some ⟨b, 0, none⟩), .int .i64 2, .int .u8 x, .int .u64 t] w fun e w' => e = .returned (.int .i64 0) ∧ Tm w' b c0 c1 { c2 with wn := false, l := (x * 256 + c2.f), g := t, st := false } ∧ Keeps (· = b) w w' := by
  obtain ⟨k0, k1, k2, k3, k4, k5, k6, k7, k8, k9, kf, klt⟩ := H.f2
  rw [e1] at k1
  rw [e2] at k5
  have ej := or_join_u64 x c2.f x0 x1 f0 f1
  go_enter Try.func75, Try.ntmps75
  go_wp2_with fail
  all_goals
    go_ret
    exact ⟨rfl, by (unfold Tm Ct.cells at H ⊢; simp only [heap_drew, heap_set_map, putObj_cells, H, Option.map_some, List.cons_append, List.nil_append, List.set_cons_succ, List.set_cons_zero, Bool.and_false, Bool.and_true, Bool.true_and, Bool.false_and, Bool.not_true, Bool.not_false, Bool.bne_true, Bool.bne_false]), by (repeat' (first | (with_reducible exact Keeps.refl _ _) | (with_reducible assumption) | (with_reducible refine Keeps.setOne ?_ _ _) | (with_reducible refine Keeps.alloc ?_ _) | (with_reducible refine Keeps.drew ?_)))⟩
set_option maxHeartbeats 1000000 in
theorem put2_second0 {w : World} {b : Nat} {c0 c1 c2 : Ct} {t : Int} (H : Tm w b c0 c1 c2) (x : Int) (x0 : 0 ≤ x) (x1 : x < 256) (f0 : 0 ≤ c2.f) (f1 : c2.f < 256) (e1 : c2.h = 3) (e2 : c2.wn = true) (hz : ((x * 256 + c2.f) == 0) = true) :
    Calls Try.prog 75 #[.pointer (some ⟨b, 0, none⟩), .int .i64 2, .int .u8 x, .int .u64 t] w fun e w' => e = .returned (.int .i64 0) ∧ Tm w' b c0 c1 { c2 with wn := false, l := 65536, g := t, st := false } ∧ Keeps (· = b) w w' := by
  obtain ⟨k0, k1, k2, k3, k4, k5, k6, k7, k8, k9, kf, klt⟩ := H.f2
  rw [e1] at k1
  rw [e2] at k5
  have ej := or_join_u64 x c2.f x0 x1 f0 f1
  go_enter Try.func75, Try.ntmps75
  go_wp2_with fail
  all_goals
    go_ret
    exact ⟨rfl, by (unfold Tm Ct.cells at H ⊢; simp only [heap_drew, heap_set_map, putObj_cells, H, Option.map_some, List.cons_append, List.nil_append, List.set_cons_succ, List.set_cons_zero, Bool.and_false, Bool.and_true, Bool.true_and, Bool.false_and, Bool.not_true, Bool.not_false, Bool.bne_true, Bool.bne_false]), by (repeat' (first | (with_reducible exact Keeps.refl _ _) | (with_reducible assumption) | (with_reducible refine Keeps.setOne ?_ _ _) | (with_reducible refine Keeps.alloc ?_ _) | (with_reducible refine Keeps.drew ?_)))⟩
set_option maxHeartbeats 1000000 in
theorem put2_two {w : World} {b : Nat} {c0 c1 c2 : Ct} {t : Int} (H : Tm w b c0 c1 c2) (x : Int) (x0 : 0 ≤ x) (x1 : x < 256) (f0 : 0 ≤ c2.f) (f1 : c2.f < 256) (e1 : c2.h = 2) (hz : ((x * 256) == 0) = false) :
    Calls Try.prog 75 #[.pointer (some ⟨b, 0, none⟩), .int .i64 2, .int .u8 x, .int .u64 t] w fun e w' => e = .returned (.int .i64 0) ∧ Tm w' b c0 c1 { c2 with wn := false, l := (x * 256), g := t, st := false } ∧ Keeps (· = b) w w' := by
  obtain ⟨k0, k1, k2, k3, k4, k5, k6, k7, k8, k9, kf, klt⟩ := H.f2
  rw [e1] at k1
  go_enter Try.func75, Try.ntmps75
  go_wp2_with fail
  all_goals
    go_ret
    exact ⟨rfl, by (unfold Tm Ct.cells at H ⊢; simp only [heap_drew, heap_set_map, putObj_cells, H, Option.map_some, List.cons_append, List.nil_append, List.set_cons_succ, List.set_cons_zero, Bool.and_false, Bool.and_true, Bool.true_and, Bool.false_and, Bool.not_true, Bool.not_false, Bool.bne_true, Bool.bne_false]), by (repeat' (first | (with_reducible exact Keeps.refl _ _) | (with_reducible assumption) | (with_reducible refine Keeps.setOne ?_ _ _) | (with_reducible refine Keeps.alloc ?_ _) | (with_reducible refine Keeps.drew ?_)))⟩
set_option maxHeartbeats 1000000 in
theorem put2_two0 {w : World} {b : Nat} {c0 c1 c2 : Ct} {t : Int} (H : Tm w b c0 c1 c2) (x : Int) (x0 : 0 ≤ x) (x1 : x < 256) (f0 : 0 ≤ c2.f) (f1 : c2.f < 256) (e1 : c2.h = 2) (hz : ((x * 256) == 0) = true) :
    Calls Try.prog 75 #[.pointer (some ⟨b, 0, none⟩), .int .i64 2, .int .u8 x, .int .u64 t] w fun e w' => e = .returned (.int .i64 0) ∧ Tm w' b c0 c1 { c2 with wn := false, l := 65536, g := t, st := false } ∧ Keeps (· = b) w w' := by
  obtain ⟨k0, k1, k2, k3, k4, k5, k6, k7, k8, k9, kf, klt⟩ := H.f2
  rw [e1] at k1
  go_enter Try.func75, Try.ntmps75
  go_wp2_with fail
  all_goals
    go_ret
    exact ⟨rfl, by (unfold Tm Ct.cells at H ⊢; simp only [heap_drew, heap_set_map, putObj_cells, H, Option.map_some, List.cons_append, List.nil_append, List.set_cons_succ, List.set_cons_zero, Bool.and_false, Bool.and_true, Bool.true_and, Bool.false_and, Bool.not_true, Bool.not_false, Bool.bne_true, Bool.bne_false]), by (repeat' (first | (with_reducible exact Keeps.refl _ _) | (with_reducible assumption) | (with_reducible refine Keeps.setOne ?_ _ _) | (with_reducible refine Keeps.alloc ?_ _) | (with_reducible refine Keeps.drew ?_)))⟩
set_option maxHeartbeats 1000000 in
theorem put2_one {w : World} {b : Nat} {c0 c1 c2 : Ct} {t : Int} (H : Tm w b c0 c1 c2) (x : Int) (x0 : 0 ≤ x) (x1 : x < 256) (f0 : 0 ≤ c2.f) (f1 : c2.f < 256) (e1 : c2.h = 1) (hz : (x == 0) = false) :
    Calls Try.prog 75 #[.pointer (some ⟨b, 0, none⟩), .int .i64 2, .int .u8 x, .int .u64 t] w fun e w' => e = .returned (.int .i64 0) ∧ Tm w' b c0 c1 { c2 with wn := false, l := x, g := t, st := false } ∧ Keeps (· = b) w w' := by
  obtain ⟨k0, k1, k2, k3, k4, k5, k6, k7, k8, k9, kf, klt⟩ := H.f2
  rw [e1] at k1
  go_enter Try.func75, Try.ntmps75
  go_wp2_with fail
  all_goals
    go_ret
    exact ⟨rfl, by (unfold Tm Ct.cells at H ⊢; simp only [heap_drew, heap_set_map, putObj_cells, H, Option.map_some, List.cons_append, List.nil_append, List.set_cons_succ, List.set_cons_zero, Bool.and_false, Bool.and_true, Bool.true_and, Bool.false_and, Bool.not_true, Bool.not_false, Bool.bne_true, Bool.bne_false]), by (repeat' (first | (with_reducible exact Keeps.refl _ _) | (with_reducible assumption) | (with_reducible refine Keeps.setOne ?_ _ _) | (with_reducible refine Keeps.alloc ?_ _) | (with_reducible refine Keeps.drew ?_)))⟩
set_option maxHeartbeats 1000000 in
theorem put2_one0 {w : World} {b : Nat} {c0 c1 c2 : Ct} {t : Int} (H : Tm w b c0 c1 c2) (x : Int) (x0 : 0 ≤ x) (x1 : x < 256) (f0 : 0 ≤ c2.f) (f1 : c2.f < 256) (e1 : c2.h = 1) (hz : (x == 0) = true) :
    Calls Try.prog 75 #[.pointer (some ⟨b, 0, none⟩), .int .i64 2, .int .u8 x, .int .u64 t] w fun e w' => e = .returned (.int .i64 0) ∧ Tm w' b c0 c1 { c2 with wn := false, l := 65536, g := t, st := false } ∧ Keeps (· = b) w w' := by
  obtain ⟨k0, k1, k2, k3, k4, k5, k6, k7, k8, k9, kf, klt⟩ := H.f2
  rw [e1] at k1
  go_enter Try.func75, Try.ntmps75
  go_wp2_with fail
  all_goals
    go_ret
    exact ⟨rfl, by (unfold Tm Ct.cells at H ⊢; simp only [heap_drew, heap_set_map, putObj_cells, H, Option.map_some, List.cons_append, List.nil_append, List.set_cons_succ, List.set_cons_zero, Bool.and_false, Bool.and_true, Bool.true_and, Bool.false_and, Bool.not_true, Bool.not_false, Bool.bne_true, Bool.bne_false]), by (repeat' (first | (with_reducible exact Keeps.refl _ _) | (with_reducible assumption) | (with_reducible refine Keeps.setOne ?_ _ _) | (with_reducible refine Keeps.alloc ?_ _) | (with_reducible refine Keeps.drew ?_)))⟩
set_option maxHeartbeats 1000000 in
theorem put_ct2 {w : World} {b : Nat} {c0 c1 c2 : Ct} {t : Int} (H : Tm w b c0 c1 c2) (ok : c2.ok t) (x : Int) (x0 : 0 ≤ x) (x1 : x < 256) :
    Calls Try.prog 75 #[.pointer (some ⟨b, 0, none⟩), .int .i64 2, .int .u8 x, .int .u64 t] w fun e w' => e = .returned (.int .i64 0) ∧ Tm w' b c0 c1 (c2.put x t) ∧ Keeps (· = b) w w' := by
  have hh := ok.h
  have hf := ok.f
  unfold Ct.put
  by_cases h1 : c2.h = 3 ∧ c2.wn = false
  · rw [if_pos h1]
    exact put2_first H x x0 x1 h1.1 h1.2
  · rw [if_neg h1]
    by_cases h3 : c2.h = 3
    · rw [if_pos h3]
      have hw : c2.wn = true := by
        cases h : c2.wn
        · exact absurd ⟨h3, h⟩ h1
        · rfl
      unfold Ct.full
      by_cases hz : x * 256 + c2.f = 0
      · rw [if_pos hz]; exact put2_second0 H x x0 x1 hf.1 hf.2 h3 hw (by simpa using hz)
      · rw [if_neg hz]; exact put2_second H x x0 x1 hf.1 hf.2 h3 hw (by simpa using hz)
    · rw [if_neg h3]
      by_cases h2 : c2.h = 2
      · rw [if_pos h2]
        unfold Ct.full
        by_cases hz : x * 256 = 0
        · rw [if_pos hz]; exact put2_two0 H x x0 x1 hf.1 hf.2 h2 (by rw [hz]; rfl)
        · rw [if_neg hz]; exact put2_two H x x0 x1 hf.1 hf.2 h2 (by rw [beq_eq_false_iff_ne]; exact hz)
      · rw [if_neg h2]
        unfold Ct.full
        by_cases hz : x = 0
        · rw [if_pos hz]; exact put2_one0 H x x0 x1 hf.1 hf.2 (by omega) (by simpa using hz)
        · rw [if_neg hz]; exact put2_one H x x0 x1 hf.1 hf.2 (by omega) (by simpa using hz)
set_option maxHeartbeats 1000000 in
theorem putc_ct0 {w : World} {b : Nat} {c0 c1 c2 : Ct} {t : Int} (H : Tm w b c0 c1 c2) (ok : c0.ok t) (ht : t < 18446744073709551616) (x : Int) (x0 : 0 ≤ x) (x1 : x < 256) (e0 : x / 64 = 0) :
    Calls Try.prog 75 #[.pointer (some ⟨b, 0, none⟩), .int .i64 3, .int .u8 x, .int .u64 t] w fun e w' => e = .returned (.int .i64 0) ∧ Tm w' b (c0.cmd x t) c1 c2 ∧ Keeps (· = b) w w' := by
  have E0 := Lib.hid e0
  clear e0
  go_enter Try.func75, Try.ntmps75
  go_wp2_with fail
  refine (cmd_ct0 H ok ht x x0 x1 E0.out).mono ?_
  rintro e w1 ⟨rfl, H1, hK⟩
  go_wp2_with fail
  go_ret
  exact ⟨rfl, H1, hK⟩
set_option maxHeartbeats 1000000 in
theorem putc_ct1 {w : World} {b : Nat} {c0 c1 c2 : Ct} {t : Int} (H : Tm w b c0 c1 c2) (ok : c1.ok t) (ht : t < 18446744073709551616) (x : Int) (x0 : 0 ≤ x) (x1 : x < 256) (e0 : x / 64 = 1) :
    Calls Try.prog 75 #[.pointer (some ⟨b, 0, none⟩), .int .i64 3, .int .u8 x, .int .u64 t] w fun e w' => e = .returned (.int .i64 0) ∧ Tm w' b c0 (c1.cmd x t) c2 ∧ Keeps (· = b) w w' := by
  have E0 := Lib.hid e0
  clear e0
  go_enter Try.func75, Try.ntmps75
  go_wp2_with fail
  refine (cmd_ct1 H ok ht x x0 x1 E0.out).mono ?_
  rintro e w1 ⟨rfl, H1, hK⟩
  go_wp2_with fail
  go_ret
  exact ⟨rfl, H1, hK⟩
set_option maxHeartbeats 1000000 in
theorem putc_ct2 {w : World} {b : Nat} {c0 c1 c2 : Ct} {t : Int} (H : Tm w b c0 c1 c2) (ok : c2.ok t) (ht : t < 18446744073709551616) (x : Int) (x0 : 0 ≤ x) (x1 : x < 256) (e0 : x / 64 = 2) :
    Calls Try.prog 75 #[.pointer (some ⟨b, 0, none⟩), .int .i64 3, .int .u8 x, .int .u64 t] w fun e w' => e = .returned (.int .i64 0) ∧ Tm w' b c0 c1 (c2.cmd x t) ∧ Keeps (· = b) w w' := by
  have E0 := Lib.hid e0
  clear e0
  go_enter Try.func75, Try.ntmps75
  go_wp2_with fail
  refine (cmd_ct2 H ok ht x x0 x1 E0.out).mono ?_
  rintro e w1 ⟨rfl, H1, hK⟩
  go_wp2_with fail
  go_ret
  exact ⟨rfl, H1, hK⟩
set_option maxHeartbeats 1000000 in
theorem putc_3 {w : World} {b : Nat} {c0 c1 c2 : Ct} {t : Int} (H : Tm w b c0 c1 c2) (x : Int) (x0 : 0 ≤ x) (x1 : x < 256) (e0 : x / 64 = 3) :
    Calls Try.prog 75 #[.pointer (some ⟨b, 0, none⟩), .int .i64 3, .int .u8 x, .int .u64 t] w fun e w' => e = .returned (.int .i64 0) ∧ Tm w' b c0 c1 c2 ∧ Keeps (· = b) w w' := by
  have E0 := Lib.hid e0
  clear e0
  go_enter Try.func75, Try.ntmps75
  go_wp2_with fail
  refine (cmd3 H x x0 x1 E0.out).mono ?_
  rintro e w1 ⟨rfl, H1, hK⟩
  go_wp2_with fail
  go_ret
  exact ⟨rfl, H1, hK⟩
end Go.Proofs.Ytojmpdddfnkffaa.Pit

