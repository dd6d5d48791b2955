/- Steps of a proof: PicA, PicB, PicD, PicE, PicF, PicC, PicG, PicH, PicI, PicJ, together. -/
import Derived.Test.YtmpcafdgkbpneaaGreatRows
import Derived.Test.YtmpcafdgkbpneaaGreatS0
import Derived.BigRegion
import Derived.Deep.RegionWith
import Derived.Deep.RegionHeld3
import Derived.Deep.Cut
import Derived.Lib.Hide
import Derived.Laws.BitsAll
import Derived.Lib.BitFns
import Derived.Deep.QuietTactic
import Derived.BigQuiet
import Derived.Laws.EntriesVeiled
/- pic: trailing zeros; a pair of chips as an object; which line asks, which is told. -/
set_option maxHeartbeats 4000000
namespace Go.Proofs.YtmpcafdgkbpneaaGreat.Pic
open Go.RowKit
set_option linter.unusedVariables false

structure Chip where
 asks : Nat
 served : Nat
 masked : Nat
 up : Nat
 base : Nat
 told : Bool
 ends : Bool
 stage : Nat
 second : Bool
 last : Bool
structure Chip.ok (c : Chip) : Prop where
 asks : c.asks < 256
 served : c.served < 256
 masked : c.masked < 256
 up : c.up < 256
 base : c.base < 256
 stage : c.stage < 4
def Chip.cells (c : Chip) : List Value := [.int .u8 c.asks, .int .u8 c.served, .int .u8 c.masked, .int .u8 c.up, .int .u8 c.base, .bool c.told, .bool c.ends, .int .i64 c.stage, .bool c.second, .bool c.last]

def Pair (w : World) (b : Nat) (c d : Chip) : Prop := w.heap[b]? = some (.cells (c.cells ++ d.cells).toArray 237)
theorem Pair.facts {w : World} {b : Nat} {c d : Chip} (H : Pair w b c d) :
    w.cell? ⟨b, 0, none⟩ = some (.int .u8 c.asks) ∧ w.cell? ⟨b, 1, none⟩ = some (.int .u8 c.served) ∧ w.cell? ⟨b, 2, none⟩ = some (.int .u8 c.masked) ∧ w.cell? ⟨b, 3, none⟩ = some (.int .u8 c.up) ∧ w.cell? ⟨b, 4, none⟩ = some (.int .u8 c.base) ∧
    w.cell? ⟨b, 5, none⟩ = some (.bool c.told) ∧ w.cell? ⟨b, 6, none⟩ = some (.bool c.ends) ∧ w.cell? ⟨b, 7, none⟩ = some (.int .i64 c.stage) ∧ w.cell? ⟨b, 8, none⟩ = some (.bool c.second) ∧ w.cell? ⟨b, 9, none⟩ = some (.bool c.last) ∧
    w.cell? ⟨b, 10, none⟩ = some (.int .u8 d.asks) ∧ w.cell? ⟨b, 11, none⟩ = some (.int .u8 d.served) ∧ w.cell? ⟨b, 12, none⟩ = some (.int .u8 d.masked) ∧ w.cell? ⟨b, 13, none⟩ = some (.int .u8 d.up) ∧ w.cell? ⟨b, 14, none⟩ = some (.int .u8 d.base) ∧
    w.cell? ⟨b, 15, none⟩ = some (.bool d.told) ∧ w.cell? ⟨b, 16, none⟩ = some (.bool d.ends) ∧ w.cell? ⟨b, 17, none⟩ = some (.int .i64 d.stage) ∧ w.cell? ⟨b, 18, none⟩ = some (.bool d.second) ∧ w.cell? ⟨b, 19, none⟩ = some (.bool d.last) ∧
    (∀ k, w.frozen? ⟨b, k, none⟩ = false) ∧ b < w.heap.size := by
 unfold Pair at H
 refine ⟨?_, ?_, ?_, ?_, ?_, ?_, ?_, ?_, ?_, ?_, ?_, ?_, ?_, ?_, ?_, ?_, ?_, ?_, ?_, ?_, fun k => free_at H, heap_lt H⟩ <;> (rw [cell_at H]; rfl)

theorem andNot_lt (a m : Nat) (ha : a < 256) : a &&& (255 - m) < 256 := Nat.lt_of_le_of_lt Nat.and_le_left ha

end Go.Proofs.YtmpcafdgkbpneaaGreat.Pic

/- pic: Line; take; Ack. -/
namespace Go.Proofs.YtmpcafdgkbpneaaGreat.Pic
open Go.RowKit
set_option linter.unusedVariables false

theorem heap_drewN (w : World) (n : Nat) : (w.drewN n).heap = w.heap := rfl

def askUp (a u m : Nat) : Nat := a ||| (m &&& (255 - u))
def lineC (c : Chip) (k : Nat) (up : Bool) : Chip :=
 if up then { c with asks := askUp c.asks c.up (2 ^ k), up := c.up ||| 2 ^ k } else { c with asks := c.asks &&& (255 - 2 ^ k), up := c.up &&& (255 - 2 ^ k) }
theorem line_0 (b : Nat) (c d : Chip) (hc : c.ok) (hd : d.ok) (up : Bool) (w : World) (H : Pair w b c d) :
    Calls Tryz.prog 132 #[.pointer (some ⟨b, 0, none⟩), .int .i64 0, .bool up] w fun e w' => e = .returned (.int .i64 0) ∧ Pair w' b (lineC c 0 up) d ∧ Keeps (· = b) w w' := by
 obtain ⟨k0, k1, k2, k3, k4, k5, k6, k7, k8, k9, k10, k11, k12, k13, k14, k15, k16, k17, k18, k19, kf, klt⟩ := H.facts
 have ha := hc.asks
 have hu := hc.up
 have e1 : bits .andNot .u8 (c.asks : Int) 1 = ((c.asks &&& 254 : Nat) : Int) := u8_andNot_nat c.asks 1 ha (by decide)
 have e2 : bits .andNot .u8 (c.up : Int) 1 = ((c.up &&& 254 : Nat) : Int) := u8_andNot_nat c.up 1 hu (by decide)
 have e3 : bits .andNot .u8 1 (c.up : Int) = ((1 &&& (255 - c.up) : Nat) : Int) := u8_andNot_nat 1 c.up (by decide) hu
 have e4 : bits .or .u8 (c.asks : Int) ((1 &&& (255 - c.up) : Nat) : Int) = ((askUp c.asks c.up 1 : Nat) : Int) := u8_or_nat c.asks _ ha (Nat.lt_of_le_of_lt Nat.and_le_left (by decide))
 have e5 : bits .or .u8 (c.up : Int) 1 = ((c.up ||| 1 : Nat) : Int) := u8_or_nat c.up 1 hu (by decide)
 have e6 : (1 &&& (255 - c.up)) = (255 - c.up) % 2 := Nat.one_and_eq_mod_two _
 rw [e6] at e3 e4
 clear e6
 have e7 : (((255 - c.up) % 2 : Nat) : Int) = ((255 - c.up : Nat) : Int) % 2 := Int.natCast_emod _ _
 rw [e7] at e4
 clear e7
 clear hc hd
 cases up
 all_goals
  go_enter Tryz.func132, Tryz.ntmps132
  go_wp2_with fail
  go_quiet (fail)
  go_wp2_with fail
  try go_region
  all_goals
   go_wp2_with fail
   go_ret
   exact ⟨rfl, by (unfold Pair Chip.cells at H ⊢; simp only [List.cons_append, List.nil_append] at H ⊢; simp only [heap_set_map, putObj_cells, H, Option.map_some, List.set_cons_succ, List.set_cons_zero, heap_drewN]; rfl), by (repeat' (first | (with_reducible exact Keeps.refl _ _) | (with_reducible assumption) | (with_reducible refine Keeps.setOne ?_ _ _) | (with_reducible refine Keeps.alloc ?_ _) | (with_reducible refine Keeps.drew ?_) | (with_reducible refine Keeps.drewN ?_ _)))⟩

theorem line_4 (b : Nat) (c d : Chip) (hc : c.ok) (hd : d.ok) (up : Bool) (w : World) (H : Pair w b c d) :
    Calls Tryz.prog 132 #[.pointer (some ⟨b, 0, none⟩), .int .i64 4, .bool up] w fun e w' => e = .returned (.int .i64 0) ∧ Pair w' b (lineC c 4 up) d ∧ Keeps (· = b) w w' := by
 obtain ⟨k0, k1, k2, k3, k4, k5, k6, k7, k8, k9, k10, k11, k12, k13, k14, k15, k16, k17, k18, k19, kf, klt⟩ := H.facts
 have ha := hc.asks
 have hu := hc.up
 have e1 : bits .andNot .u8 (c.asks : Int) 16 = ((c.asks &&& 239 : Nat) : Int) := u8_andNot_nat c.asks 16 ha (by decide)
 have e2 : bits .andNot .u8 (c.up : Int) 16 = ((c.up &&& 239 : Nat) : Int) := u8_andNot_nat c.up 16 hu (by decide)
 have e3 : bits .andNot .u8 16 (c.up : Int) = ((16 &&& (255 - c.up) : Nat) : Int) := u8_andNot_nat 16 c.up (by decide) hu
 have e4 : bits .or .u8 (c.asks : Int) ((16 &&& (255 - c.up) : Nat) : Int) = ((askUp c.asks c.up 16 : Nat) : Int) := u8_or_nat c.asks _ ha (Nat.lt_of_le_of_lt Nat.and_le_left (by decide))
 have e5 : bits .or .u8 (c.up : Int) 16 = ((c.up ||| 16 : Nat) : Int) := u8_or_nat c.up 16 hu (by decide)
 clear hc hd
 cases up
 all_goals
  go_enter Tryz.func132, Tryz.ntmps132
  go_wp2_with fail
  go_quiet (fail)
  go_wp2_with fail
  try go_region
  all_goals
   go_wp2_with fail
   go_ret
   exact ⟨rfl, by (unfold Pair Chip.cells at H ⊢; simp only [List.cons_append, List.nil_append] at H ⊢; simp only [heap_set_map, putObj_cells, H, Option.map_some, List.set_cons_succ, List.set_cons_zero, heap_drewN]; rfl), by (repeat' (first | (with_reducible exact Keeps.refl _ _) | (with_reducible assumption) | (with_reducible refine Keeps.setOne ?_ _ _) | (with_reducible refine Keeps.alloc ?_ _) | (with_reducible refine Keeps.drew ?_) | (with_reducible refine Keeps.drewN ?_ _)))⟩

theorem line_6 (b : Nat) (c d : Chip) (hc : c.ok) (hd : d.ok) (up : Bool) (w : World) (H : Pair w b c d) :
    Calls Tryz.prog 132 #[.pointer (some ⟨b, 0, none⟩), .int .i64 6, .bool up] w fun e w' => e = .returned (.int .i64 0) ∧ Pair w' b (lineC c 6 up) d ∧ Keeps (· = b) w w' := by
 obtain ⟨k0, k1, k2, k3, k4, k5, k6, k7, k8, k9, k10, k11, k12, k13, k14, k15, k16, k17, k18, k19, kf, klt⟩ := H.facts
 have ha := hc.asks
 have hu := hc.up
 have e1 : bits .andNot .u8 (c.asks : Int) 64 = ((c.asks &&& 191 : Nat) : Int) := u8_andNot_nat c.asks 64 ha (by decide)
 have e2 : bits .andNot .u8 (c.up : Int) 64 = ((c.up &&& 191 : Nat) : Int) := u8_andNot_nat c.up 64 hu (by decide)
 have e3 : bits .andNot .u8 64 (c.up : Int) = ((64 &&& (255 - c.up) : Nat) : Int) := u8_andNot_nat 64 c.up (by decide) hu
 have e4 : bits .or .u8 (c.asks : Int) ((64 &&& (255 - c.up) : Nat) : Int) = ((askUp c.asks c.up 64 : Nat) : Int) := u8_or_nat c.asks _ ha (Nat.lt_of_le_of_lt Nat.and_le_left (by decide))
 have e5 : bits .or .u8 (c.up : Int) 64 = ((c.up ||| 64 : Nat) : Int) := u8_or_nat c.up 64 hu (by decide)
 clear hc hd
 cases up
 all_goals
  go_enter Tryz.func132, Tryz.ntmps132
  go_wp2_with fail
  go_quiet (fail)
  go_wp2_with fail
  try go_region
  all_goals
   go_wp2_with fail
   go_ret
   exact ⟨rfl, by (unfold Pair Chip.cells at H ⊢; simp only [List.cons_append, List.nil_append] at H ⊢; simp only [heap_set_map, putObj_cells, H, Option.map_some, List.set_cons_succ, List.set_cons_zero, heap_drewN]; rfl), by (repeat' (first | (with_reducible exact Keeps.refl _ _) | (with_reducible assumption) | (with_reducible refine Keeps.setOne ?_ _ _) | (with_reducible refine Keeps.alloc ?_ _) | (with_reducible refine Keeps.drew ?_) | (with_reducible refine Keeps.drewN ?_ _)))⟩

theorem line_8 (b : Nat) (c d : Chip) (hc : c.ok) (hd : d.ok) (up : Bool) (w : World) (H : Pair w b c d) :
    Calls Tryz.prog 132 #[.pointer (some ⟨b, 0, none⟩), .int .i64 8, .bool up] w fun e w' => e = .returned (.int .i64 0) ∧ Pair w' b c (lineC d 0 up) ∧ Keeps (· = b) w w' := by
 obtain ⟨k0, k1, k2, k3, k4, k5, k6, k7, k8, k9, k10, k11, k12, k13, k14, k15, k16, k17, k18, k19, kf, klt⟩ := H.facts
 have ha := hd.asks
 have hu := hd.up
 have e1 : bits .andNot .u8 (d.asks : Int) 1 = ((d.asks &&& 254 : Nat) : Int) := u8_andNot_nat d.asks 1 ha (by decide)
 have e2 : bits .andNot .u8 (d.up : Int) 1 = ((d.up &&& 254 : Nat) : Int) := u8_andNot_nat d.up 1 hu (by decide)
 have e3 : bits .andNot .u8 1 (d.up : Int) = ((1 &&& (255 - d.up) : Nat) : Int) := u8_andNot_nat 1 d.up (by decide) hu
 have e4 : bits .or .u8 (d.asks : Int) ((1 &&& (255 - d.up) : Nat) : Int) = ((askUp d.asks d.up 1 : Nat) : Int) := u8_or_nat d.asks _ ha (Nat.lt_of_le_of_lt Nat.and_le_left (by decide))
 have e5 : bits .or .u8 (d.up : Int) 1 = ((d.up ||| 1 : Nat) : Int) := u8_or_nat d.up 1 hu (by decide)
 have e6 : (1 &&& (255 - d.up)) = (255 - d.up) % 2 := Nat.one_and_eq_mod_two _
 rw [e6] at e3 e4
 clear e6
 have e7 : (((255 - d.up) % 2 : Nat) : Int) = ((255 - d.up : Nat) : Int) % 2 := Int.natCast_emod _ _
 rw [e7] at e4
 clear e7
 clear hc hd
 cases up
 all_goals
  go_enter Tryz.func132, Tryz.ntmps132
  go_wp2_with fail
  go_quiet (fail)
  go_wp2_with fail
  try go_region
  all_goals
   go_wp2_with fail
   go_ret
   exact ⟨rfl, by (unfold Pair Chip.cells at H ⊢; simp only [List.cons_append, List.nil_append] at H ⊢; simp only [heap_set_map, putObj_cells, H, Option.map_some, List.set_cons_succ, List.set_cons_zero, heap_drewN]; rfl), by (repeat' (first | (with_reducible exact Keeps.refl _ _) | (with_reducible assumption) | (with_reducible refine Keeps.setOne ?_ _ _) | (with_reducible refine Keeps.alloc ?_ _) | (with_reducible refine Keeps.drew ?_) | (with_reducible refine Keeps.drewN ?_ _)))⟩

theorem line_14 (b : Nat) (c d : Chip) (hc : c.ok) (hd : d.ok) (up : Bool) (w : World) (H : Pair w b c d) :
    Calls Tryz.prog 132 #[.pointer (some ⟨b, 0, none⟩), .int .i64 14, .bool up] w fun e w' => e = .returned (.int .i64 0) ∧ Pair w' b c (lineC d 6 up) ∧ Keeps (· = b) w w' := by
 obtain ⟨k0, k1, k2, k3, k4, k5, k6, k7, k8, k9, k10, k11, k12, k13, k14, k15, k16, k17, k18, k19, kf, klt⟩ := H.facts
 have ha := hd.asks
 have hu := hd.up
 have e1 : bits .andNot .u8 (d.asks : Int) 64 = ((d.asks &&& 191 : Nat) : Int) := u8_andNot_nat d.asks 64 ha (by decide)
 have e2 : bits .andNot .u8 (d.up : Int) 64 = ((d.up &&& 191 : Nat) : Int) := u8_andNot_nat d.up 64 hu (by decide)
 have e3 : bits .andNot .u8 64 (d.up : Int) = ((64 &&& (255 - d.up) : Nat) : Int) := u8_andNot_nat 64 d.up (by decide) hu
 have e4 : bits .or .u8 (d.asks : Int) ((64 &&& (255 - d.up) : Nat) : Int) = ((askUp d.asks d.up 64 : Nat) : Int) := u8_or_nat d.asks _ ha (Nat.lt_of_le_of_lt Nat.and_le_left (by decide))
 have e5 : bits .or .u8 (d.up : Int) 64 = ((d.up ||| 64 : Nat) : Int) := u8_or_nat d.up 64 hu (by decide)
 clear hc hd
 cases up
 all_goals
  go_enter Tryz.func132, Tryz.ntmps132
  go_wp2_with fail
  go_quiet (fail)
  go_wp2_with fail
  try go_region
  all_goals
   go_wp2_with fail
   go_ret
   exact ⟨rfl, by (unfold Pair Chip.cells at H ⊢; simp only [List.cons_append, List.nil_append] at H ⊢; simp only [heap_set_map, putObj_cells, H, Option.map_some, List.set_cons_succ, List.set_cons_zero, heap_drewN]; rfl), by (repeat' (first | (with_reducible exact Keeps.refl _ _) | (with_reducible assumption) | (with_reducible refine Keeps.setOne ?_ _ _) | (with_reducible refine Keeps.alloc ?_ _) | (with_reducible refine Keeps.drew ?_) | (with_reducible refine Keeps.drewN ?_ _)))⟩

end Go.Proofs.YtmpcafdgkbpneaaGreat.Pic

/- pic: onward. -/
namespace Go.Proofs.YtmpcafdgkbpneaaGreat.Pic
open Go.RowKit
set_option linter.unusedVariables false
set_option linter.unusedSimpArgs false

end Go.Proofs.YtmpcafdgkbpneaaGreat.Pic

/- pic: Out$1. -/
namespace Go.Proofs.YtmpcafdgkbpneaaGreat.Pic
open Go.RowKit
set_option linter.unusedVariables false
set_option linter.unusedSimpArgs false

def bit (v m : Nat) : Bool := v &&& m != 0
theorem d0_c (b k : Nat) (c d : Chip) (hok : c.ok) (v : Nat) (hv : v < 256) (h0 : c.stage = 0) (w : World) (H : Pair w b c d) (kv : w.cell? ⟨k, 0, none⟩ = some (.int .u8 v)) (hkb : k ≠ b) :
    Calls Tryz.prog 179 #[.pointer (some ⟨b, 0, none⟩), .bool false, .pointer (some ⟨k, 0, none⟩)] w fun r w' => r = .returned (.tuple #[]) ∧ Pair w' b ({ c with masked := v }) d ∧ Keeps (· = b) w w' := by
 obtain ⟨k0, k1, k2, k3, k4, k5, k6, k7, k8, k9, k10, k11, k12, k13, k14, k15, k16, k17, k18, k19, kf, klt⟩ := H.facts
 rw [h0] at k7
 replace k7 : w.cell? ⟨b, 7, none⟩ = some (.int .i64 0) := k7
 go_enter Tryz.func179, Tryz.ntmps179
 go_wp2_with fail
 go_returns
 refine ⟨rfl, ?_, by (repeat' (first | (with_reducible exact Keeps.refl _ _) | (with_reducible exact hk) | (with_reducible refine Keeps.setOne ?_ _ _) | (with_reducible refine Keeps.alloc ?_ _) | (with_reducible refine Keeps.drew ?_) | (with_reducible refine Keeps.drewN ?_ _)))⟩
 unfold Pair Chip.cells at H ⊢
 simp only [List.cons_append, List.nil_append] at H ⊢
 (first | (simp only [heap_set_map, putObj_cells, H, Option.map_some, List.set_cons_succ, List.set_cons_zero, heap_drewN, heap_drew]; done) | (simp only [heap_set_map, putObj_cells, H, Option.map_some, List.set_cons_succ, List.set_cons_zero, heap_drewN, heap_drew]; rfl))

end Go.Proofs.YtmpcafdgkbpneaaGreat.Pic

/- pic: Out$1. -/
namespace Go.Proofs.YtmpcafdgkbpneaaGreat.Pic
open Go.RowKit
set_option linter.unusedVariables false
set_option linter.unusedSimpArgs false

end Go.Proofs.YtmpcafdgkbpneaaGreat.Pic

/- pic: take; Ack; Line. -/
namespace Go.Proofs.YtmpcafdgkbpneaaGreat.Pic
open Go.RowKit
set_option linter.unusedVariables false
set_option linter.unusedSimpArgs false

theorem lineC_ok {c : Chip} (h : c.ok) (k : Nat) (hk : k < 8) (up : Bool) : (lineC c k up).ok := by
 have hp : 2 ^ k < 256 := Nat.pow_lt_pow_right (a := 2) (by decide) hk
 unfold lineC
 split
 ·exact ⟨show askUp c.asks c.up (2 ^ k) < 256 from Nat.or_lt_two_pow (n := 8) h.asks (Nat.lt_of_le_of_lt Nat.and_le_left hp), h.served, h.masked, Nat.or_lt_two_pow (n := 8) h.up hp, h.base, h.stage⟩
 ·exact ⟨andNot_lt _ _ h.asks, h.served, h.masked, andNot_lt _ _ h.up, h.base, h.stage⟩

def lineGood (n : Int) : Bool := decide (0 ≤ n) && decide (n ≤ 15)
def lnc (c : Chip) (n : Int) (up : Bool) : Chip := if 0 ≤ n ∧ n ≤ 7 ∧ n ≠ 2 then lineC c n.toNat up else c
def lnd (d : Chip) (n : Int) (up : Bool) : Chip := if 8 ≤ n ∧ n ≤ 15 then lineC d (n.toNat - 8) up else d
theorem lnc_ok {c : Chip} (h : c.ok) (n : Int) (up : Bool) : (lnc c n up).ok := by
 unfold lnc
 split
 ·exact lineC_ok h _ (by omega) up
 ·exact h
theorem lnd_ok {c : Chip} (h : c.ok) (n : Int) (up : Bool) : (lnd c n up).ok := by
 unfold lnd
 split
 ·exact lineC_ok h _ (by omega) up
 ·exact h
end Go.Proofs.YtmpcafdgkbpneaaGreat.Pic

/- pic: with; Out; In; New. -/
namespace Go.Proofs.YtmpcafdgkbpneaaGreat.Pic
open Go.RowKit
set_option linter.unusedVariables false
set_option linter.unusedSimpArgs false

theorem cfOut (args : Array Value) (w : World) : (callFunc 179 args).run Tryz.prog w = .ok (Next.enter 179 args) w := by kernel_rfl
end Go.Proofs.YtmpcafdgkbpneaaGreat.Pic

/- pic: In; New. -/
namespace Go.Proofs.YtmpcafdgkbpneaaGreat.Pic
open Go.RowKit
set_option linter.unusedVariables false
set_option linter.unusedSimpArgs false

def lerr (n : Int) : Int := if lineGood n then 0 else 1
theorem line_three (b : Nat) (c d : Chip) (hc : c.ok) (hd : d.ok) (n : Int) (hn : n = 0 ∨ n = 4 ∨ n = 14) (up : Bool) (w : World) (H : Pair w b c d) :
    Calls Tryz.prog 132 #[.pointer (some ⟨b, 0, none⟩), .int .i64 n, .bool up] w fun e w' => e = .returned (.int .i64 (lerr n)) ∧ Pair w' b (lnc c n up) (lnd d n up) ∧ Keeps (· = b) w w' := by
 rcases hn with rfl | rfl | rfl
 ·exact line_0 b c d hc hd up w H
 ·exact line_4 b c d hc hd up w H
 ·exact line_14 b c d hc hd up w H
def chip0 : Chip := Chip.mk 0 0 0 0 0 false false 0 false false
theorem chip0_ok : chip0.ok := ⟨by decide, by decide, by decide, by decide, by decide, by decide⟩
theorem new_any (w : World) : Calls Tryz.prog 75 #[] w fun e w' => e = .returned (.pointer (some ⟨w.heap.size, 0, none⟩)) ∧ Pair w' w.heap.size chip0 chip0 ∧ Below w.heap.size w w' := by
 go_enter Tryz.func75, Tryz.ntmps75
 go_wp2_with fail
 go_returns
 exact ⟨rfl, heap_new w _, by go_grown⟩
end Go.Proofs.YtmpcafdgkbpneaaGreat.Pic

/- pic: setup; awake. -/
namespace Go.Proofs.YtmpcafdgkbpneaaGreat.Pic
open Go.RowKit
set_option linter.unusedVariables false
set_option linter.unusedSimpArgs false

theorem below_drewN {B : Nat} {w a : World} (h : Below B w a) (n : Nat) : Below B w (a.drewN n) := ⟨h.os, h.tape, h.output, h.size, h.block⟩
end Go.Proofs.YtmpcafdgkbpneaaGreat.Pic

/- pic: a pair of chips of the call's own, its calls one behind the other; which line is told, by bits. -/
namespace Go.Proofs.YtmpcafdgkbpneaaGreat.Pic
open Go.RowKit
set_option linter.unusedVariables false

theorem bit_not (m j : Nat) (hm : m < 256) (hj : j < 8) : (255 - m).testBit j = !m.testBit j := by
 have h : ∀ m : Fin 256, ∀ j : Fin 8, (255 - m.val).testBit j.val = !m.val.testBit j.val := by decide +kernel
 exact h ⟨m, hm⟩ ⟨j, hj⟩
theorem bit_pow (n j : Nat) (hn : n < 8) (hj : j < 8) : (2 ^ n).testBit j = decide (n = j) := by
 have h : ∀ n : Fin 8, ∀ j : Fin 8, (2 ^ n.val).testBit j.val = decide (n.val = j.val) := by decide +kernel
 exact h ⟨n, hn⟩ ⟨j, hj⟩
end Go.Proofs.YtmpcafdgkbpneaaGreat.Pic

