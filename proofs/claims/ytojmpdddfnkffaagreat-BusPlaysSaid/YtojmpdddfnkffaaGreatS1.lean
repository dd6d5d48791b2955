/- Steps of a proof: PicB, PicD, PicE, together. -/
import Derived.Test.YtojmpdddfnkffaaGreatS0
/- pic: Line; take; Ack. -/
set_option maxHeartbeats 4000000
namespace Go.Proofs.YtojmpdddfnkffaaGreat.Pic
open Go.RowKit
set_option linter.unusedVariables false

theorem heap_drewN (w : World) (n : Nat) : (w.drewN n).heap = w.heap := rfl

def askUp (a u m : Nat) : Nat := a ||| (m &&& (255 - u))
def lineC (c : Chip) (k : Nat) (up : Bool) : Chip :=
 if up then { c with asks := askUp c.asks c.up (2 ^ k), up := c.up ||| 2 ^ k } else { c with asks := c.asks &&& (255 - 2 ^ k), up := c.up &&& (255 - 2 ^ k) }
def servedC (c : Chip) (i : Nat) : Nat := if c.ends then c.served else c.served ||| 2 ^ i
def takeC (c : Chip) (i : Nat) : Chip := { c with asks := c.asks &&& (255 - 2 ^ i), served := servedC c i }

theorem line_0 (b : Nat) (c d : Chip) (hc : c.ok) (hd : d.ok) (up : Bool) (w : World) (H : Pair w b c d) :
    Calls Tryz.prog 74 #[.pointer (some ⟨b, 0, none⟩), .int .i64 0, .bool up] w fun e w' => e = .returned (.int .i64 0) ∧ Pair w' b (lineC c 0 up) d ∧ Keeps (· = b) w w' := by
 obtain ⟨k0, k1, k2, k3, k4, k5, k6, k7, k8, k9, k10, k11, k12, k13, k14, k15, k16, k17, k18, k19, kf, klt⟩ := H.facts
 have ha := hc.asks
 have hu := hc.up
 have e1 : bits .andNot .u8 (c.asks : Int) 1 = ((c.asks &&& 254 : Nat) : Int) := u8_andNot_nat c.asks 1 ha (by decide)
 have e2 : bits .andNot .u8 (c.up : Int) 1 = ((c.up &&& 254 : Nat) : Int) := u8_andNot_nat c.up 1 hu (by decide)
 have e3 : bits .andNot .u8 1 (c.up : Int) = ((1 &&& (255 - c.up) : Nat) : Int) := u8_andNot_nat 1 c.up (by decide) hu
 have e4 : bits .or .u8 (c.asks : Int) ((1 &&& (255 - c.up) : Nat) : Int) = ((askUp c.asks c.up 1 : Nat) : Int) := u8_or_nat c.asks _ ha (Nat.lt_of_le_of_lt Nat.and_le_left (by decide))
 have e5 : bits .or .u8 (c.up : Int) 1 = ((c.up ||| 1 : Nat) : Int) := u8_or_nat c.up 1 hu (by decide)
 have e6 : (1 &&& (255 - c.up)) = (255 - c.up) % 2 := Nat.one_and_eq_mod_two _
 rw [e6] at e3 e4
 clear e6
 have e7 : (((255 - c.up) % 2 : Nat) : Int) = ((255 - c.up : Nat) : Int) % 2 := Int.natCast_emod _ _
 rw [e7] at e4
 clear e7
 clear hc hd
 cases up
 all_goals
  go_enter Tryz.func74, Tryz.ntmps74
  go_wp2_with fail
  go_quiet (fail)
  go_wp2_with fail
  try go_region
  all_goals
   go_wp2_with fail
   go_ret
   exact ⟨rfl, by (unfold Pair Chip.cells at H ⊢; simp only [List.cons_append, List.nil_append] at H ⊢; simp only [heap_set_map, putObj_cells, H, Option.map_some, List.set_cons_succ, List.set_cons_zero, heap_drewN]; rfl), by (repeat' (first | (with_reducible exact Keeps.refl _ _) | (with_reducible assumption) | (with_reducible refine Keeps.setOne ?_ _ _) | (with_reducible refine Keeps.alloc ?_ _) | (with_reducible refine Keeps.drew ?_) | (with_reducible refine Keeps.drewN ?_ _)))⟩

theorem line_1 (b : Nat) (c d : Chip) (hc : c.ok) (hd : d.ok) (up : Bool) (w : World) (H : Pair w b c d) :
    Calls Tryz.prog 74 #[.pointer (some ⟨b, 0, none⟩), .int .i64 1, .bool up] w fun e w' => e = .returned (.int .i64 0) ∧ Pair w' b (lineC c 1 up) d ∧ Keeps (· = b) w w' := by
 obtain ⟨k0, k1, k2, k3, k4, k5, k6, k7, k8, k9, k10, k11, k12, k13, k14, k15, k16, k17, k18, k19, kf, klt⟩ := H.facts
 have ha := hc.asks
 have hu := hc.up
 have e1 : bits .andNot .u8 (c.asks : Int) 2 = ((c.asks &&& 253 : Nat) : Int) := u8_andNot_nat c.asks 2 ha (by decide)
 have e2 : bits .andNot .u8 (c.up : Int) 2 = ((c.up &&& 253 : Nat) : Int) := u8_andNot_nat c.up 2 hu (by decide)
 have e3 : bits .andNot .u8 2 (c.up : Int) = ((2 &&& (255 - c.up) : Nat) : Int) := u8_andNot_nat 2 c.up (by decide) hu
 have e4 : bits .or .u8 (c.asks : Int) ((2 &&& (255 - c.up) : Nat) : Int) = ((askUp c.asks c.up 2 : Nat) : Int) := u8_or_nat c.asks _ ha (Nat.lt_of_le_of_lt Nat.and_le_left (by decide))
 have e5 : bits .or .u8 (c.up : Int) 2 = ((c.up ||| 2 : Nat) : Int) := u8_or_nat c.up 2 hu (by decide)
 clear hc hd
 cases up
 all_goals
  go_enter Tryz.func74, Tryz.ntmps74
  go_wp2_with fail
  go_quiet (fail)
  go_wp2_with fail
  try go_region
  all_goals
   go_wp2_with fail
   go_ret
   exact ⟨rfl, by (unfold Pair Chip.cells at H ⊢; simp only [List.cons_append, List.nil_append] at H ⊢; simp only [heap_set_map, putObj_cells, H, Option.map_some, List.set_cons_succ, List.set_cons_zero, heap_drewN]; rfl), by (repeat' (first | (with_reducible exact Keeps.refl _ _) | (with_reducible assumption) | (with_reducible refine Keeps.setOne ?_ _ _) | (with_reducible refine Keeps.alloc ?_ _) | (with_reducible refine Keeps.drew ?_) | (with_reducible refine Keeps.drewN ?_ _)))⟩

theorem line_3 (b : Nat) (c d : Chip) (hc : c.ok) (hd : d.ok) (up : Bool) (w : World) (H : Pair w b c d) :
    Calls Tryz.prog 74 #[.pointer (some ⟨b, 0, none⟩), .int .i64 3, .bool up] w fun e w' => e = .returned (.int .i64 0) ∧ Pair w' b (lineC c 3 up) d ∧ Keeps (· = b) w w' := by
 obtain ⟨k0, k1, k2, k3, k4, k5, k6, k7, k8, k9, k10, k11, k12, k13, k14, k15, k16, k17, k18, k19, kf, klt⟩ := H.facts
 have ha := hc.asks
 have hu := hc.up
 have e1 : bits .andNot .u8 (c.asks : Int) 8 = ((c.asks &&& 247 : Nat) : Int) := u8_andNot_nat c.asks 8 ha (by decide)
 have e2 : bits .andNot .u8 (c.up : Int) 8 = ((c.up &&& 247 : Nat) : Int) := u8_andNot_nat c.up 8 hu (by decide)
 have e3 : bits .andNot .u8 8 (c.up : Int) = ((8 &&& (255 - c.up) : Nat) : Int) := u8_andNot_nat 8 c.up (by decide) hu
 have e4 : bits .or .u8 (c.asks : Int) ((8 &&& (255 - c.up) : Nat) : Int) = ((askUp c.asks c.up 8 : Nat) : Int) := u8_or_nat c.asks _ ha (Nat.lt_of_le_of_lt Nat.and_le_left (by decide))
 have e5 : bits .or .u8 (c.up : Int) 8 = ((c.up ||| 8 : Nat) : Int) := u8_or_nat c.up 8 hu (by decide)
 clear hc hd
 cases up
 all_goals
  go_enter Tryz.func74, Tryz.ntmps74
  go_wp2_with fail
  go_quiet (fail)
  go_wp2_with fail
  try go_region
  all_goals
   go_wp2_with fail
   go_ret
   exact ⟨rfl, by (unfold Pair Chip.cells at H ⊢; simp only [List.cons_append, List.nil_append] at H ⊢; simp only [heap_set_map, putObj_cells, H, Option.map_some, List.set_cons_succ, List.set_cons_zero, heap_drewN]; rfl), by (repeat' (first | (with_reducible exact Keeps.refl _ _) | (with_reducible assumption) | (with_reducible refine Keeps.setOne ?_ _ _) | (with_reducible refine Keeps.alloc ?_ _) | (with_reducible refine Keeps.drew ?_) | (with_reducible refine Keeps.drewN ?_ _)))⟩

theorem line_4 (b : Nat) (c d : Chip) (hc : c.ok) (hd : d.ok) (up : Bool) (w : World) (H : Pair w b c d) :
    Calls Tryz.prog 74 #[.pointer (some ⟨b, 0, none⟩), .int .i64 4, .bool up] w fun e w' => e = .returned (.int .i64 0) ∧ Pair w' b (lineC c 4 up) d ∧ Keeps (· = b) w w' := by
 obtain ⟨k0, k1, k2, k3, k4, k5, k6, k7, k8, k9, k10, k11, k12, k13, k14, k15, k16, k17, k18, k19, kf, klt⟩ := H.facts
 have ha := hc.asks
 have hu := hc.up
 have e1 : bits .andNot .u8 (c.asks : Int) 16 = ((c.asks &&& 239 : Nat) : Int) := u8_andNot_nat c.asks 16 ha (by decide)
 have e2 : bits .andNot .u8 (c.up : Int) 16 = ((c.up &&& 239 : Nat) : Int) := u8_andNot_nat c.up 16 hu (by decide)
 have e3 : bits .andNot .u8 16 (c.up : Int) = ((16 &&& (255 - c.up) : Nat) : Int) := u8_andNot_nat 16 c.up (by decide) hu
 have e4 : bits .or .u8 (c.asks : Int) ((16 &&& (255 - c.up) : Nat) : Int) = ((askUp c.asks c.up 16 : Nat) : Int) := u8_or_nat c.asks _ ha (Nat.lt_of_le_of_lt Nat.and_le_left (by decide))
 have e5 : bits .or .u8 (c.up : Int) 16 = ((c.up ||| 16 : Nat) : Int) := u8_or_nat c.up 16 hu (by decide)
 clear hc hd
 cases up
 all_goals
  go_enter Tryz.func74, Tryz.ntmps74
  go_wp2_with fail
  go_quiet (fail)
  go_wp2_with fail
  try go_region
  all_goals
   go_wp2_with fail
   go_ret
   exact ⟨rfl, by (unfold Pair Chip.cells at H ⊢; simp only [List.cons_append, List.nil_append] at H ⊢; simp only [heap_set_map, putObj_cells, H, Option.map_some, List.set_cons_succ, List.set_cons_zero, heap_drewN]; rfl), by (repeat' (first | (with_reducible exact Keeps.refl _ _) | (with_reducible assumption) | (with_reducible refine Keeps.setOne ?_ _ _) | (with_reducible refine Keeps.alloc ?_ _) | (with_reducible refine Keeps.drew ?_) | (with_reducible refine Keeps.drewN ?_ _)))⟩

theorem line_5 (b : Nat) (c d : Chip) (hc : c.ok) (hd : d.ok) (up : Bool) (w : World) (H : Pair w b c d) :
    Calls Tryz.prog 74 #[.pointer (some ⟨b, 0, none⟩), .int .i64 5, .bool up] w fun e w' => e = .returned (.int .i64 0) ∧ Pair w' b (lineC c 5 up) d ∧ Keeps (· = b) w w' := by
 obtain ⟨k0, k1, k2, k3, k4, k5, k6, k7, k8, k9, k10, k11, k12, k13, k14, k15, k16, k17, k18, k19, kf, klt⟩ := H.facts
 have ha := hc.asks
 have hu := hc.up
 have e1 : bits .andNot .u8 (c.asks : Int) 32 = ((c.asks &&& 223 : Nat) : Int) := u8_andNot_nat c.asks 32 ha (by decide)
 have e2 : bits .andNot .u8 (c.up : Int) 32 = ((c.up &&& 223 : Nat) : Int) := u8_andNot_nat c.up 32 hu (by decide)
 have e3 : bits .andNot .u8 32 (c.up : Int) = ((32 &&& (255 - c.up) : Nat) : Int) := u8_andNot_nat 32 c.up (by decide) hu
 have e4 : bits .or .u8 (c.asks : Int) ((32 &&& (255 - c.up) : Nat) : Int) = ((askUp c.asks c.up 32 : Nat) : Int) := u8_or_nat c.asks _ ha (Nat.lt_of_le_of_lt Nat.and_le_left (by decide))
 have e5 : bits .or .u8 (c.up : Int) 32 = ((c.up ||| 32 : Nat) : Int) := u8_or_nat c.up 32 hu (by decide)
 clear hc hd
 cases up
 all_goals
  go_enter Tryz.func74, Tryz.ntmps74
  go_wp2_with fail
  go_quiet (fail)
  go_wp2_with fail
  try go_region
  all_goals
   go_wp2_with fail
   go_ret
   exact ⟨rfl, by (unfold Pair Chip.cells at H ⊢; simp only [List.cons_append, List.nil_append] at H ⊢; simp only [heap_set_map, putObj_cells, H, Option.map_some, List.set_cons_succ, List.set_cons_zero, heap_drewN]; rfl), by (repeat' (first | (with_reducible exact Keeps.refl _ _) | (with_reducible assumption) | (with_reducible refine Keeps.setOne ?_ _ _) | (with_reducible refine Keeps.alloc ?_ _) | (with_reducible refine Keeps.drew ?_) | (with_reducible refine Keeps.drewN ?_ _)))⟩

theorem line_6 (b : Nat) (c d : Chip) (hc : c.ok) (hd : d.ok) (up : Bool) (w : World) (H : Pair w b c d) :
    Calls Tryz.prog 74 #[.pointer (some ⟨b, 0, none⟩), .int .i64 6, .bool up] w fun e w' => e = .returned (.int .i64 0) ∧ Pair w' b (lineC c 6 up) d ∧ Keeps (· = b) w w' := by
 obtain ⟨k0, k1, k2, k3, k4, k5, k6, k7, k8, k9, k10, k11, k12, k13, k14, k15, k16, k17, k18, k19, kf, klt⟩ := H.facts
 have ha := hc.asks
 have hu := hc.up
 have e1 : bits .andNot .u8 (c.asks : Int) 64 = ((c.asks &&& 191 : Nat) : Int) := u8_andNot_nat c.asks 64 ha (by decide)
 have e2 : bits .andNot .u8 (c.up : Int) 64 = ((c.up &&& 191 : Nat) : Int) := u8_andNot_nat c.up 64 hu (by decide)
 have e3 : bits .andNot .u8 64 (c.up : Int) = ((64 &&& (255 - c.up) : Nat) : Int) := u8_andNot_nat 64 c.up (by decide) hu
 have e4 : bits .or .u8 (c.asks : Int) ((64 &&& (255 - c.up) : Nat) : Int) = ((askUp c.asks c.up 64 : Nat) : Int) := u8_or_nat c.asks _ ha (Nat.lt_of_le_of_lt Nat.and_le_left (by decide))
 have e5 : bits .or .u8 (c.up : Int) 64 = ((c.up ||| 64 : Nat) : Int) := u8_or_nat c.up 64 hu (by decide)
 clear hc hd
 cases up
 all_goals
  go_enter Tryz.func74, Tryz.ntmps74
  go_wp2_with fail
  go_quiet (fail)
  go_wp2_with fail
  try go_region
  all_goals
   go_wp2_with fail
   go_ret
   exact ⟨rfl, by (unfold Pair Chip.cells at H ⊢; simp only [List.cons_append, List.nil_append] at H ⊢; simp only [heap_set_map, putObj_cells, H, Option.map_some, List.set_cons_succ, List.set_cons_zero, heap_drewN]; rfl), by (repeat' (first | (with_reducible exact Keeps.refl _ _) | (with_reducible assumption) | (with_reducible refine Keeps.setOne ?_ _ _) | (with_reducible refine Keeps.alloc ?_ _) | (with_reducible refine Keeps.drew ?_) | (with_reducible refine Keeps.drewN ?_ _)))⟩

theorem line_7 (b : Nat) (c d : Chip) (hc : c.ok) (hd : d.ok) (up : Bool) (w : World) (H : Pair w b c d) :
    Calls Tryz.prog 74 #[.pointer (some ⟨b, 0, none⟩), .int .i64 7, .bool up] w fun e w' => e = .returned (.int .i64 0) ∧ Pair w' b (lineC c 7 up) d ∧ Keeps (· = b) w w' := by
 obtain ⟨k0, k1, k2, k3, k4, k5, k6, k7, k8, k9, k10, k11, k12, k13, k14, k15, k16, k17, k18, k19, kf, klt⟩ := H.facts
 have ha := hc.asks
 have hu := hc.up
 have e1 : bits .andNot .u8 (c.asks : Int) 128 = ((c.asks &&& 127 : Nat) : Int) := u8_andNot_nat c.asks 128 ha (by decide)
 have e2 : bits .andNot .u8 (c.up : Int) 128 = ((c.up &&& 127 : Nat) : Int) := u8_andNot_nat c.up 128 hu (by decide)
 have e3 : bits .andNot .u8 128 (c.up : Int) = ((128 &&& (255 - c.up) : Nat) : Int) := u8_andNot_nat 128 c.up (by decide) hu
 have e4 : bits .or .u8 (c.asks : Int) ((128 &&& (255 - c.up) : Nat) : Int) = ((askUp c.asks c.up 128 : Nat) : Int) := u8_or_nat c.asks _ ha (Nat.lt_of_le_of_lt Nat.and_le_left (by decide))
 have e5 : bits .or .u8 (c.up : Int) 128 = ((c.up ||| 128 : Nat) : Int) := u8_or_nat c.up 128 hu (by decide)
 clear hc hd
 cases up
 all_goals
  go_enter Tryz.func74, Tryz.ntmps74
  go_wp2_with fail
  go_quiet (fail)
  go_wp2_with fail
  try go_region
  all_goals
   go_wp2_with fail
   go_ret
   exact ⟨rfl, by (unfold Pair Chip.cells at H ⊢; simp only [List.cons_append, List.nil_append] at H ⊢; simp only [heap_set_map, putObj_cells, H, Option.map_some, List.set_cons_succ, List.set_cons_zero, heap_drewN]; rfl), by (repeat' (first | (with_reducible exact Keeps.refl _ _) | (with_reducible assumption) | (with_reducible refine Keeps.setOne ?_ _ _) | (with_reducible refine Keeps.alloc ?_ _) | (with_reducible refine Keeps.drew ?_) | (with_reducible refine Keeps.drewN ?_ _)))⟩

theorem line_8 (b : Nat) (c d : Chip) (hc : c.ok) (hd : d.ok) (up : Bool) (w : World) (H : Pair w b c d) :
    Calls Tryz.prog 74 #[.pointer (some ⟨b, 0, none⟩), .int .i64 8, .bool up] w fun e w' => e = .returned (.int .i64 0) ∧ Pair w' b c (lineC d 0 up) ∧ Keeps (· = b) w w' := by
 obtain ⟨k0, k1, k2, k3, k4, k5, k6, k7, k8, k9, k10, k11, k12, k13, k14, k15, k16, k17, k18, k19, kf, klt⟩ := H.facts
 have ha := hd.asks
 have hu := hd.up
 have e1 : bits .andNot .u8 (d.asks : Int) 1 = ((d.asks &&& 254 : Nat) : Int) := u8_andNot_nat d.asks 1 ha (by decide)
 have e2 : bits .andNot .u8 (d.up : Int) 1 = ((d.up &&& 254 : Nat) : Int) := u8_andNot_nat d.up 1 hu (by decide)
 have e3 : bits .andNot .u8 1 (d.up : Int) = ((1 &&& (255 - d.up) : Nat) : Int) := u8_andNot_nat 1 d.up (by decide) hu
 have e4 : bits .or .u8 (d.asks : Int) ((1 &&& (255 - d.up) : Nat) : Int) = ((askUp d.asks d.up 1 : Nat) : Int) := u8_or_nat d.asks _ ha (Nat.lt_of_le_of_lt Nat.and_le_left (by decide))
 have e5 : bits .or .u8 (d.up : Int) 1 = ((d.up ||| 1 : Nat) : Int) := u8_or_nat d.up 1 hu (by decide)
 have e6 : (1 &&& (255 - d.up)) = (255 - d.up) % 2 := Nat.one_and_eq_mod_two _
 rw [e6] at e3 e4
 clear e6
 have e7 : (((255 - d.up) % 2 : Nat) : Int) = ((255 - d.up : Nat) : Int) % 2 := Int.natCast_emod _ _
 rw [e7] at e4
 clear e7
 clear hc hd
 cases up
 all_goals
  go_enter Tryz.func74, Tryz.ntmps74
  go_wp2_with fail
  go_quiet (fail)
  go_wp2_with fail
  try go_region
  all_goals
   go_wp2_with fail
   go_ret
   exact ⟨rfl, by (unfold Pair Chip.cells at H ⊢; simp only [List.cons_append, List.nil_append] at H ⊢; simp only [heap_set_map, putObj_cells, H, Option.map_some, List.set_cons_succ, List.set_cons_zero, heap_drewN]; rfl), by (repeat' (first | (with_reducible exact Keeps.refl _ _) | (with_reducible assumption) | (with_reducible refine Keeps.setOne ?_ _ _) | (with_reducible refine Keeps.alloc ?_ _) | (with_reducible refine Keeps.drew ?_) | (with_reducible refine Keeps.drewN ?_ _)))⟩

theorem line_9 (b : Nat) (c d : Chip) (hc : c.ok) (hd : d.ok) (up : Bool) (w : World) (H : Pair w b c d) :
    Calls Tryz.prog 74 #[.pointer (some ⟨b, 0, none⟩), .int .i64 9, .bool up] w fun e w' => e = .returned (.int .i64 0) ∧ Pair w' b c (lineC d 1 up) ∧ Keeps (· = b) w w' := by
 obtain ⟨k0, k1, k2, k3, k4, k5, k6, k7, k8, k9, k10, k11, k12, k13, k14, k15, k16, k17, k18, k19, kf, klt⟩ := H.facts
 have ha := hd.asks
 have hu := hd.up
 have e1 : bits .andNot .u8 (d.asks : Int) 2 = ((d.asks &&& 253 : Nat) : Int) := u8_andNot_nat d.asks 2 ha (by decide)
 have e2 : bits .andNot .u8 (d.up : Int) 2 = ((d.up &&& 253 : Nat) : Int) := u8_andNot_nat d.up 2 hu (by decide)
 have e3 : bits .andNot .u8 2 (d.up : Int) = ((2 &&& (255 - d.up) : Nat) : Int) := u8_andNot_nat 2 d.up (by decide) hu
 have e4 : bits .or .u8 (d.asks : Int) ((2 &&& (255 - d.up) : Nat) : Int) = ((askUp d.asks d.up 2 : Nat) : Int) := u8_or_nat d.asks _ ha (Nat.lt_of_le_of_lt Nat.and_le_left (by decide))
 have e5 : bits .or .u8 (d.up : Int) 2 = ((d.up ||| 2 : Nat) : Int) := u8_or_nat d.up 2 hu (by decide)
 clear hc hd
 cases up
 all_goals
  go_enter Tryz.func74, Tryz.ntmps74
  go_wp2_with fail
  go_quiet (fail)
  go_wp2_with fail
  try go_region
  all_goals
   go_wp2_with fail
   go_ret
   exact ⟨rfl, by (unfold Pair Chip.cells at H ⊢; simp only [List.cons_append, List.nil_append] at H ⊢; simp only [heap_set_map, putObj_cells, H, Option.map_some, List.set_cons_succ, List.set_cons_zero, heap_drewN]; rfl), by (repeat' (first | (with_reducible exact Keeps.refl _ _) | (with_reducible assumption) | (with_reducible refine Keeps.setOne ?_ _ _) | (with_reducible refine Keeps.alloc ?_ _) | (with_reducible refine Keeps.drew ?_) | (with_reducible refine Keeps.drewN ?_ _)))⟩

theorem line_10 (b : Nat) (c d : Chip) (hc : c.ok) (hd : d.ok) (up : Bool) (w : World) (H : Pair w b c d) :
    Calls Tryz.prog 74 #[.pointer (some ⟨b, 0, none⟩), .int .i64 10, .bool up] w fun e w' => e = .returned (.int .i64 0) ∧ Pair w' b c (lineC d 2 up) ∧ Keeps (· = b) w w' := by
 obtain ⟨k0, k1, k2, k3, k4, k5, k6, k7, k8, k9, k10, k11, k12, k13, k14, k15, k16, k17, k18, k19, kf, klt⟩ := H.facts
 have ha := hd.asks
 have hu := hd.up
 have e1 : bits .andNot .u8 (d.asks : Int) 4 = ((d.asks &&& 251 : Nat) : Int) := u8_andNot_nat d.asks 4 ha (by decide)
 have e2 : bits .andNot .u8 (d.up : Int) 4 = ((d.up &&& 251 : Nat) : Int) := u8_andNot_nat d.up 4 hu (by decide)
 have e3 : bits .andNot .u8 4 (d.up : Int) = ((4 &&& (255 - d.up) : Nat) : Int) := u8_andNot_nat 4 d.up (by decide) hu
 have e4 : bits .or .u8 (d.asks : Int) ((4 &&& (255 - d.up) : Nat) : Int) = ((askUp d.asks d.up 4 : Nat) : Int) := u8_or_nat d.asks _ ha (Nat.lt_of_le_of_lt Nat.and_le_left (by decide))
 have e5 : bits .or .u8 (d.up : Int) 4 = ((d.up ||| 4 : Nat) : Int) := u8_or_nat d.up 4 hu (by decide)
 clear hc hd
 cases up
 all_goals
  go_enter Tryz.func74, Tryz.ntmps74
  go_wp2_with fail
  go_quiet (fail)
  go_wp2_with fail
  try go_region
  all_goals
   go_wp2_with fail
   go_ret
   exact ⟨rfl, by (unfold Pair Chip.cells at H ⊢; simp only [List.cons_append, List.nil_append] at H ⊢; simp only [heap_set_map, putObj_cells, H, Option.map_some, List.set_cons_succ, List.set_cons_zero, heap_drewN]; rfl), by (repeat' (first | (with_reducible exact Keeps.refl _ _) | (with_reducible assumption) | (with_reducible refine Keeps.setOne ?_ _ _) | (with_reducible refine Keeps.alloc ?_ _) | (with_reducible refine Keeps.drew ?_) | (with_reducible refine Keeps.drewN ?_ _)))⟩

theorem line_11 (b : Nat) (c d : Chip) (hc : c.ok) (hd : d.ok) (up : Bool) (w : World) (H : Pair w b c d) :
    Calls Tryz.prog 74 #[.pointer (some ⟨b, 0, none⟩), .int .i64 11, .bool up] w fun e w' => e = .returned (.int .i64 0) ∧ Pair w' b c (lineC d 3 up) ∧ Keeps (· = b) w w' := by
 obtain ⟨k0, k1, k2, k3, k4, k5, k6, k7, k8, k9, k10, k11, k12, k13, k14, k15, k16, k17, k18, k19, kf, klt⟩ := H.facts
 have ha := hd.asks
 have hu := hd.up
 have e1 : bits .andNot .u8 (d.asks : Int) 8 = ((d.asks &&& 247 : Nat) : Int) := u8_andNot_nat d.asks 8 ha (by decide)
 have e2 : bits .andNot .u8 (d.up : Int) 8 = ((d.up &&& 247 : Nat) : Int) := u8_andNot_nat d.up 8 hu (by decide)
 have e3 : bits .andNot .u8 8 (d.up : Int) = ((8 &&& (255 - d.up) : Nat) : Int) := u8_andNot_nat 8 d.up (by decide) hu
 have e4 : bits .or .u8 (d.asks : Int) ((8 &&& (255 - d.up) : Nat) : Int) = ((askUp d.asks d.up 8 : Nat) : Int) := u8_or_nat d.asks _ ha (Nat.lt_of_le_of_lt Nat.and_le_left (by decide))
 have e5 : bits .or .u8 (d.up : Int) 8 = ((d.up ||| 8 : Nat) : Int) := u8_or_nat d.up 8 hu (by decide)
 clear hc hd
 cases up
 all_goals
  go_enter Tryz.func74, Tryz.ntmps74
  go_wp2_with fail
  go_quiet (fail)
  go_wp2_with fail
  try go_region
  all_goals
   go_wp2_with fail
   go_ret
   exact ⟨rfl, by (unfold Pair Chip.cells at H ⊢; simp only [List.cons_append, List.nil_append] at H ⊢; simp only [heap_set_map, putObj_cells, H, Option.map_some, List.set_cons_succ, List.set_cons_zero, heap_drewN]; rfl), by (repeat' (first | (with_reducible exact Keeps.refl _ _) | (with_reducible assumption) | (with_reducible refine Keeps.setOne ?_ _ _) | (with_reducible refine Keeps.alloc ?_ _) | (with_reducible refine Keeps.drew ?_) | (with_reducible refine Keeps.drewN ?_ _)))⟩

theorem line_12 (b : Nat) (c d : Chip) (hc : c.ok) (hd : d.ok) (up : Bool) (w : World) (H : Pair w b c d) :
    Calls Tryz.prog 74 #[.pointer (some ⟨b, 0, none⟩), .int .i64 12, .bool up] w fun e w' => e = .returned (.int .i64 0) ∧ Pair w' b c (lineC d 4 up) ∧ Keeps (· = b) w w' := by
 obtain ⟨k0, k1, k2, k3, k4, k5, k6, k7, k8, k9, k10, k11, k12, k13, k14, k15, k16, k17, k18, k19, kf, klt⟩ := H.facts
 have ha := hd.asks
 have hu := hd.up
 have e1 : bits .andNot .u8 (d.asks : Int) 16 = ((d.asks &&& 239 : Nat) : Int) := u8_andNot_nat d.asks 16 ha (by decide)
 have e2 : bits .andNot .u8 (d.up : Int) 16 = ((d.up &&& 239 : Nat) : Int) := u8_andNot_nat d.up 16 hu (by decide)
 have e3 : bits .andNot .u8 16 (d.up : Int) = ((16 &&& (255 - d.up) : Nat) : Int) := u8_andNot_nat 16 d.up (by decide) hu
 have e4 : bits .or .u8 (d.asks : Int) ((16 &&& (255 - d.up) : Nat) : Int) = ((askUp d.asks d.up 16 : Nat) : Int) := u8_or_nat d.asks _ ha (Nat.lt_of_le_of_lt Nat.and_le_left (by decide))
 have e5 : bits .or .u8 (d.up : Int) 16 = ((d.up ||| 16 : Nat) : Int) := u8_or_nat d.up 16 hu (by decide)
 clear hc hd
 cases up
 all_goals
  go_enter Tryz.func74, Tryz.ntmps74
  go_wp2_with fail
  go_quiet (fail)
  go_wp2_with fail
  try go_region
  all_goals
   go_wp2_with fail
   go_ret
   exact ⟨rfl, by (unfold Pair Chip.cells at H ⊢; simp only [List.cons_append, List.nil_append] at H ⊢; simp only [heap_set_map, putObj_cells, H, Option.map_some, List.set_cons_succ, List.set_cons_zero, heap_drewN]; rfl), by (repeat' (first | (with_reducible exact Keeps.refl _ _) | (with_reducible assumption) | (with_reducible refine Keeps.setOne ?_ _ _) | (with_reducible refine Keeps.alloc ?_ _) | (with_reducible refine Keeps.drew ?_) | (with_reducible refine Keeps.drewN ?_ _)))⟩

theorem line_13 (b : Nat) (c d : Chip) (hc : c.ok) (hd : d.ok) (up : Bool) (w : World) (H : Pair w b c d) :
    Calls Tryz.prog 74 #[.pointer (some ⟨b, 0, none⟩), .int .i64 13, .bool up] w fun e w' => e = .returned (.int .i64 0) ∧ Pair w' b c (lineC d 5 up) ∧ Keeps (· = b) w w' := by
 obtain ⟨k0, k1, k2, k3, k4, k5, k6, k7, k8, k9, k10, k11, k12, k13, k14, k15, k16, k17, k18, k19, kf, klt⟩ := H.facts
 have ha := hd.asks
 have hu := hd.up
 have e1 : bits .andNot .u8 (d.asks : Int) 32 = ((d.asks &&& 223 : Nat) : Int) := u8_andNot_nat d.asks 32 ha (by decide)
 have e2 : bits .andNot .u8 (d.up : Int) 32 = ((d.up &&& 223 : Nat) : Int) := u8_andNot_nat d.up 32 hu (by decide)
 have e3 : bits .andNot .u8 32 (d.up : Int) = ((32 &&& (255 - d.up) : Nat) : Int) := u8_andNot_nat 32 d.up (by decide) hu
 have e4 : bits .or .u8 (d.asks : Int) ((32 &&& (255 - d.up) : Nat) : Int) = ((askUp d.asks d.up 32 : Nat) : Int) := u8_or_nat d.asks _ ha (Nat.lt_of_le_of_lt Nat.and_le_left (by decide))
 have e5 : bits .or .u8 (d.up : Int) 32 = ((d.up ||| 32 : Nat) : Int) := u8_or_nat d.up 32 hu (by decide)
 clear hc hd
 cases up
 all_goals
  go_enter Tryz.func74, Tryz.ntmps74
  go_wp2_with fail
  go_quiet (fail)
  go_wp2_with fail
  try go_region
  all_goals
   go_wp2_with fail
   go_ret
   exact ⟨rfl, by (unfold Pair Chip.cells at H ⊢; simp only [List.cons_append, List.nil_append] at H ⊢; simp only [heap_set_map, putObj_cells, H, Option.map_some, List.set_cons_succ, List.set_cons_zero, heap_drewN]; rfl), by (repeat' (first | (with_reducible exact Keeps.refl _ _) | (with_reducible assumption) | (with_reducible refine Keeps.setOne ?_ _ _) | (with_reducible refine Keeps.alloc ?_ _) | (with_reducible refine Keeps.drew ?_) | (with_reducible refine Keeps.drewN ?_ _)))⟩

theorem line_14 (b : Nat) (c d : Chip) (hc : c.ok) (hd : d.ok) (up : Bool) (w : World) (H : Pair w b c d) :
    Calls Tryz.prog 74 #[.pointer (some ⟨b, 0, none⟩), .int .i64 14, .bool up] w fun e w' => e = .returned (.int .i64 0) ∧ Pair w' b c (lineC d 6 up) ∧ Keeps (· = b) w w' := by
 obtain ⟨k0, k1, k2, k3, k4, k5, k6, k7, k8, k9, k10, k11, k12, k13, k14, k15, k16, k17, k18, k19, kf, klt⟩ := H.facts
 have ha := hd.asks
 have hu := hd.up
 have e1 : bits .andNot .u8 (d.asks : Int) 64 = ((d.asks &&& 191 : Nat) : Int) := u8_andNot_nat d.asks 64 ha (by decide)
 have e2 : bits .andNot .u8 (d.up : Int) 64 = ((d.up &&& 191 : Nat) : Int) := u8_andNot_nat d.up 64 hu (by decide)
 have e3 : bits .andNot .u8 64 (d.up : Int) = ((64 &&& (255 - d.up) : Nat) : Int) := u8_andNot_nat 64 d.up (by decide) hu
 have e4 : bits .or .u8 (d.asks : Int) ((64 &&& (255 - d.up) : Nat) : Int) = ((askUp d.asks d.up 64 : Nat) : Int) := u8_or_nat d.asks _ ha (Nat.lt_of_le_of_lt Nat.and_le_left (by decide))
 have e5 : bits .or .u8 (d.up : Int) 64 = ((d.up ||| 64 : Nat) : Int) := u8_or_nat d.up 64 hu (by decide)
 clear hc hd
 cases up
 all_goals
  go_enter Tryz.func74, Tryz.ntmps74
  go_wp2_with fail
  go_quiet (fail)
  go_wp2_with fail
  try go_region
  all_goals
   go_wp2_with fail
   go_ret
   exact ⟨rfl, by (unfold Pair Chip.cells at H ⊢; simp only [List.cons_append, List.nil_append] at H ⊢; simp only [heap_set_map, putObj_cells, H, Option.map_some, List.set_cons_succ, List.set_cons_zero, heap_drewN]; rfl), by (repeat' (first | (with_reducible exact Keeps.refl _ _) | (with_reducible assumption) | (with_reducible refine Keeps.setOne ?_ _ _) | (with_reducible refine Keeps.alloc ?_ _) | (with_reducible refine Keeps.drew ?_) | (with_reducible refine Keeps.drewN ?_ _)))⟩

theorem line_15 (b : Nat) (c d : Chip) (hc : c.ok) (hd : d.ok) (up : Bool) (w : World) (H : Pair w b c d) :
    Calls Tryz.prog 74 #[.pointer (some ⟨b, 0, none⟩), .int .i64 15, .bool up] w fun e w' => e = .returned (.int .i64 0) ∧ Pair w' b c (lineC d 7 up) ∧ Keeps (· = b) w w' := by
 obtain ⟨k0, k1, k2, k3, k4, k5, k6, k7, k8, k9, k10, k11, k12, k13, k14, k15, k16, k17, k18, k19, kf, klt⟩ := H.facts
 have ha := hd.asks
 have hu := hd.up
 have e1 : bits .andNot .u8 (d.asks : Int) 128 = ((d.asks &&& 127 : Nat) : Int) := u8_andNot_nat d.asks 128 ha (by decide)
 have e2 : bits .andNot .u8 (d.up : Int) 128 = ((d.up &&& 127 : Nat) : Int) := u8_andNot_nat d.up 128 hu (by decide)
 have e3 : bits .andNot .u8 128 (d.up : Int) = ((128 &&& (255 - d.up) : Nat) : Int) := u8_andNot_nat 128 d.up (by decide) hu
 have e4 : bits .or .u8 (d.asks : Int) ((128 &&& (255 - d.up) : Nat) : Int) = ((askUp d.asks d.up 128 : Nat) : Int) := u8_or_nat d.asks _ ha (Nat.lt_of_le_of_lt Nat.and_le_left (by decide))
 have e5 : bits .or .u8 (d.up : Int) 128 = ((d.up ||| 128 : Nat) : Int) := u8_or_nat d.up 128 hu (by decide)
 clear hc hd
 cases up
 all_goals
  go_enter Tryz.func74, Tryz.ntmps74
  go_wp2_with fail
  go_quiet (fail)
  go_wp2_with fail
  try go_region
  all_goals
   go_wp2_with fail
   go_ret
   exact ⟨rfl, by (unfold Pair Chip.cells at H ⊢; simp only [List.cons_append, List.nil_append] at H ⊢; simp only [heap_set_map, putObj_cells, H, Option.map_some, List.set_cons_succ, List.set_cons_zero, heap_drewN]; rfl), by (repeat' (first | (with_reducible exact Keeps.refl _ _) | (with_reducible assumption) | (with_reducible refine Keeps.setOne ?_ _ _) | (with_reducible refine Keeps.alloc ?_ _) | (with_reducible refine Keeps.drew ?_) | (with_reducible refine Keeps.drewN ?_ _)))⟩

theorem line_two (b : Nat) (c d : Chip) (up : Bool) (w : World) (H : Pair w b c d) :
    Calls Tryz.prog 74 #[.pointer (some ⟨b, 0, none⟩), .int .i64 2, .bool up] w fun e w' => e = .returned (.int .i64 0) ∧ Pair w' b c d ∧ Keeps (· = b) w w' := by
 go_enter Tryz.func74, Tryz.ntmps74
 go_wp2_with fail
 go_quiet (fail)
 go_wp2_with fail
 go_ret
 exact ⟨rfl, H, (Keeps.refl _ _).drewN _⟩
theorem line_bad (b : Nat) (n : Int) (up : Bool) (w : World) (h : n < 0 ∨ 15 < n) :
    Calls Tryz.prog 74 #[.pointer (some ⟨b, 0, none⟩), .int .i64 n, .bool up] w fun e w' => e = .returned (.int .i64 1) ∧ w = w' := by
 rcases h with h | h
 all_goals
  go_enter Tryz.func74, Tryz.ntmps74
  go_wp2_with fail
  go_ret
  exact ⟨rfl, rfl⟩
theorem take1_0 (b : Nat) (c d : Chip) (hd : d.ok) (w : World) (H : Pair w b c d) (ht : isTold d.asks d.masked d.served = true) (hi : tz8 (left d.asks d.masked) = 0) :
    Calls Tryz.prog 99 #[.pointer (some ⟨b, 0, none⟩), .int .i64 1] w fun e w' => e = .returned (.int .i64 ((d.base : Int) + 0)) ∧ Pair w' b c (takeC d 0) ∧ Keeps (· = b) w w' := by
 have HT := Lib.hid ht
 have HI := Lib.hid hi
 have HD := Lib.hid hd
 have ha := hd.asks
 have hs := hd.served
 have hb := hd.base
 have e1 : bits .andNot .u8 (d.asks : Int) 1 = ((d.asks &&& 254 : Nat) : Int) := u8_andNot_nat d.asks 1 ha (by decide)
 have e5 : bits .or .u8 (d.served : Int) 1 = ((d.served ||| 1 : Nat) : Int) := u8_or_nat d.served 1 hs (by decide)
 clear ht hi hd
 cases hE : d.ends
 all_goals
  have HE := Lib.hid hE
  go_enter Tryz.func99, Tryz.ntmps99
  go_wp2_with fail
  refine (tells1_any b c d HD.out _ H).mono ?_
  rintro e w1 ⟨rfl, n, rfl⟩
  rw [HT.out, HI.out]
  obtain ⟨-, -, -, -, -, -, -, -, -, -, k10, k11, k12, k13, k14, k15, k16, k17, k18, k19, kf, klt⟩ := Pair.facts (w := w) H
  go_wp2_with fail
  go_region
  go_wp2_with fail
  try go_region
  all_goals
   go_wp2_with fail
   go_ret
   refine ⟨rfl, ?_, by (repeat' (first | (with_reducible exact Keeps.refl _ _) | (with_reducible assumption) | (with_reducible refine Keeps.setOne ?_ _ _) | (with_reducible refine Keeps.alloc ?_ _) | (with_reducible refine Keeps.drew ?_) | (with_reducible refine Keeps.drewN ?_ _)))⟩
   have hT : takeC d 0 = Chip.mk (d.asks &&& 254) (servedC d 0) d.masked d.up d.base d.told d.ends d.stage d.second d.last := rfl
   first
    | (have hS : servedC d 0 = d.served := by (unfold servedC; rw [hE]; rfl)
       rw [hT, hS])
    | (have hS : servedC d 0 = d.served ||| 1 := by (unfold servedC; rw [hE]; rfl)
       rw [hT, hS])
   unfold Pair Chip.cells at H ⊢
   simp only [List.cons_append, List.nil_append] at H ⊢
   (first | (simp only [heap_set_map, putObj_cells, H, Option.map_some, List.set_cons_succ, List.set_cons_zero, heap_drewN]; done) | (simp only [heap_set_map, putObj_cells, H, Option.map_some, List.set_cons_succ, List.set_cons_zero, heap_drewN, heap_drew]; done) | (simp only [heap_set_map, putObj_cells, H, Option.map_some, List.set_cons_succ, List.set_cons_zero, heap_drewN]; rfl) | (simp only [heap_set_map, putObj_cells, H, Option.map_some, List.set_cons_succ, List.set_cons_zero, heap_drewN, heap_drew]; rfl))

theorem take1_1 (b : Nat) (c d : Chip) (hd : d.ok) (w : World) (H : Pair w b c d) (ht : isTold d.asks d.masked d.served = true) (hi : tz8 (left d.asks d.masked) = 1) :
    Calls Tryz.prog 99 #[.pointer (some ⟨b, 0, none⟩), .int .i64 1] w fun e w' => e = .returned (.int .i64 ((d.base : Int) + 1)) ∧ Pair w' b c (takeC d 1) ∧ Keeps (· = b) w w' := by
 have HT := Lib.hid ht
 have HI := Lib.hid hi
 have HD := Lib.hid hd
 have ha := hd.asks
 have hs := hd.served
 have hb := hd.base
 have e1 : bits .andNot .u8 (d.asks : Int) 2 = ((d.asks &&& 253 : Nat) : Int) := u8_andNot_nat d.asks 2 ha (by decide)
 have e5 : bits .or .u8 (d.served : Int) 2 = ((d.served ||| 2 : Nat) : Int) := u8_or_nat d.served 2 hs (by decide)
 clear ht hi hd
 cases hE : d.ends
 all_goals
  have HE := Lib.hid hE
  go_enter Tryz.func99, Tryz.ntmps99
  go_wp2_with fail
  refine (tells1_any b c d HD.out _ H).mono ?_
  rintro e w1 ⟨rfl, n, rfl⟩
  rw [HT.out, HI.out]
  obtain ⟨-, -, -, -, -, -, -, -, -, -, k10, k11, k12, k13, k14, k15, k16, k17, k18, k19, kf, klt⟩ := Pair.facts (w := w) H
  go_wp2_with fail
  go_region
  go_wp2_with fail
  try go_region
  all_goals
   go_wp2_with fail
   go_ret
   refine ⟨rfl, ?_, by (repeat' (first | (with_reducible exact Keeps.refl _ _) | (with_reducible assumption) | (with_reducible refine Keeps.setOne ?_ _ _) | (with_reducible refine Keeps.alloc ?_ _) | (with_reducible refine Keeps.drew ?_) | (with_reducible refine Keeps.drewN ?_ _)))⟩
   have hT : takeC d 1 = Chip.mk (d.asks &&& 253) (servedC d 1) d.masked d.up d.base d.told d.ends d.stage d.second d.last := rfl
   first
    | (have hS : servedC d 1 = d.served := by (unfold servedC; rw [hE]; rfl)
       rw [hT, hS])
    | (have hS : servedC d 1 = d.served ||| 2 := by (unfold servedC; rw [hE]; rfl)
       rw [hT, hS])
   unfold Pair Chip.cells at H ⊢
   simp only [List.cons_append, List.nil_append] at H ⊢
   (first | (simp only [heap_set_map, putObj_cells, H, Option.map_some, List.set_cons_succ, List.set_cons_zero, heap_drewN]; done) | (simp only [heap_set_map, putObj_cells, H, Option.map_some, List.set_cons_succ, List.set_cons_zero, heap_drewN, heap_drew]; done) | (simp only [heap_set_map, putObj_cells, H, Option.map_some, List.set_cons_succ, List.set_cons_zero, heap_drewN]; rfl) | (simp only [heap_set_map, putObj_cells, H, Option.map_some, List.set_cons_succ, List.set_cons_zero, heap_drewN, heap_drew]; rfl))

theorem take1_2 (b : Nat) (c d : Chip) (hd : d.ok) (w : World) (H : Pair w b c d) (ht : isTold d.asks d.masked d.served = true) (hi : tz8 (left d.asks d.masked) = 2) :
    Calls Tryz.prog 99 #[.pointer (some ⟨b, 0, none⟩), .int .i64 1] w fun e w' => e = .returned (.int .i64 ((d.base : Int) + 2)) ∧ Pair w' b c (takeC d 2) ∧ Keeps (· = b) w w' := by
 have HT := Lib.hid ht
 have HI := Lib.hid hi
 have HD := Lib.hid hd
 have ha := hd.asks
 have hs := hd.served
 have hb := hd.base
 have e1 : bits .andNot .u8 (d.asks : Int) 4 = ((d.asks &&& 251 : Nat) : Int) := u8_andNot_nat d.asks 4 ha (by decide)
 have e5 : bits .or .u8 (d.served : Int) 4 = ((d.served ||| 4 : Nat) : Int) := u8_or_nat d.served 4 hs (by decide)
 clear ht hi hd
 cases hE : d.ends
 all_goals
  have HE := Lib.hid hE
  go_enter Tryz.func99, Tryz.ntmps99
  go_wp2_with fail
  refine (tells1_any b c d HD.out _ H).mono ?_
  rintro e w1 ⟨rfl, n, rfl⟩
  rw [HT.out, HI.out]
  obtain ⟨-, -, -, -, -, -, -, -, -, -, k10, k11, k12, k13, k14, k15, k16, k17, k18, k19, kf, klt⟩ := Pair.facts (w := w) H
  go_wp2_with fail
  go_region
  go_wp2_with fail
  try go_region
  all_goals
   go_wp2_with fail
   go_ret
   refine ⟨rfl, ?_, by (repeat' (first | (with_reducible exact Keeps.refl _ _) | (with_reducible assumption) | (with_reducible refine Keeps.setOne ?_ _ _) | (with_reducible refine Keeps.alloc ?_ _) | (with_reducible refine Keeps.drew ?_) | (with_reducible refine Keeps.drewN ?_ _)))⟩
   have hT : takeC d 2 = Chip.mk (d.asks &&& 251) (servedC d 2) d.masked d.up d.base d.told d.ends d.stage d.second d.last := rfl
   first
    | (have hS : servedC d 2 = d.served := by (unfold servedC; rw [hE]; rfl)
       rw [hT, hS])
    | (have hS : servedC d 2 = d.served ||| 4 := by (unfold servedC; rw [hE]; rfl)
       rw [hT, hS])
   unfold Pair Chip.cells at H ⊢
   simp only [List.cons_append, List.nil_append] at H ⊢
   (first | (simp only [heap_set_map, putObj_cells, H, Option.map_some, List.set_cons_succ, List.set_cons_zero, heap_drewN]; done) | (simp only [heap_set_map, putObj_cells, H, Option.map_some, List.set_cons_succ, List.set_cons_zero, heap_drewN, heap_drew]; done) | (simp only [heap_set_map, putObj_cells, H, Option.map_some, List.set_cons_succ, List.set_cons_zero, heap_drewN]; rfl) | (simp only [heap_set_map, putObj_cells, H, Option.map_some, List.set_cons_succ, List.set_cons_zero, heap_drewN, heap_drew]; rfl))

theorem take1_3 (b : Nat) (c d : Chip) (hd : d.ok) (w : World) (H : Pair w b c d) (ht : isTold d.asks d.masked d.served = true) (hi : tz8 (left d.asks d.masked) = 3) :
    Calls Tryz.prog 99 #[.pointer (some ⟨b, 0, none⟩), .int .i64 1] w fun e w' => e = .returned (.int .i64 ((d.base : Int) + 3)) ∧ Pair w' b c (takeC d 3) ∧ Keeps (· = b) w w' := by
 have HT := Lib.hid ht
 have HI := Lib.hid hi
 have HD := Lib.hid hd
 have ha := hd.asks
 have hs := hd.served
 have hb := hd.base
 have e1 : bits .andNot .u8 (d.asks : Int) 8 = ((d.asks &&& 247 : Nat) : Int) := u8_andNot_nat d.asks 8 ha (by decide)
 have e5 : bits .or .u8 (d.served : Int) 8 = ((d.served ||| 8 : Nat) : Int) := u8_or_nat d.served 8 hs (by decide)
 clear ht hi hd
 cases hE : d.ends
 all_goals
  have HE := Lib.hid hE
  go_enter Tryz.func99, Tryz.ntmps99
  go_wp2_with fail
  refine (tells1_any b c d HD.out _ H).mono ?_
  rintro e w1 ⟨rfl, n, rfl⟩
  rw [HT.out, HI.out]
  obtain ⟨-, -, -, -, -, -, -, -, -, -, k10, k11, k12, k13, k14, k15, k16, k17, k18, k19, kf, klt⟩ := Pair.facts (w := w) H
  go_wp2_with fail
  go_region
  go_wp2_with fail
  try go_region
  all_goals
   go_wp2_with fail
   go_ret
   refine ⟨rfl, ?_, by (repeat' (first | (with_reducible exact Keeps.refl _ _) | (with_reducible assumption) | (with_reducible refine Keeps.setOne ?_ _ _) | (with_reducible refine Keeps.alloc ?_ _) | (with_reducible refine Keeps.drew ?_) | (with_reducible refine Keeps.drewN ?_ _)))⟩
   have hT : takeC d 3 = Chip.mk (d.asks &&& 247) (servedC d 3) d.masked d.up d.base d.told d.ends d.stage d.second d.last := rfl
   first
    | (have hS : servedC d 3 = d.served := by (unfold servedC; rw [hE]; rfl)
       rw [hT, hS])
    | (have hS : servedC d 3 = d.served ||| 8 := by (unfold servedC; rw [hE]; rfl)
       rw [hT, hS])
   unfold Pair Chip.cells at H ⊢
   simp only [List.cons_append, List.nil_append] at H ⊢
   (first | (simp only [heap_set_map, putObj_cells, H, Option.map_some, List.set_cons_succ, List.set_cons_zero, heap_drewN]; done) | (simp only [heap_set_map, putObj_cells, H, Option.map_some, List.set_cons_succ, List.set_cons_zero, heap_drewN, heap_drew]; done) | (simp only [heap_set_map, putObj_cells, H, Option.map_some, List.set_cons_succ, List.set_cons_zero, heap_drewN]; rfl) | (simp only [heap_set_map, putObj_cells, H, Option.map_some, List.set_cons_succ, List.set_cons_zero, heap_drewN, heap_drew]; rfl))

theorem take1_4 (b : Nat) (c d : Chip) (hd : d.ok) (w : World) (H : Pair w b c d) (ht : isTold d.asks d.masked d.served = true) (hi : tz8 (left d.asks d.masked) = 4) :
    Calls Tryz.prog 99 #[.pointer (some ⟨b, 0, none⟩), .int .i64 1] w fun e w' => e = .returned (.int .i64 ((d.base : Int) + 4)) ∧ Pair w' b c (takeC d 4) ∧ Keeps (· = b) w w' := by
 have HT := Lib.hid ht
 have HI := Lib.hid hi
 have HD := Lib.hid hd
 have ha := hd.asks
 have hs := hd.served
 have hb := hd.base
 have e1 : bits .andNot .u8 (d.asks : Int) 16 = ((d.asks &&& 239 : Nat) : Int) := u8_andNot_nat d.asks 16 ha (by decide)
 have e5 : bits .or .u8 (d.served : Int) 16 = ((d.served ||| 16 : Nat) : Int) := u8_or_nat d.served 16 hs (by decide)
 clear ht hi hd
 cases hE : d.ends
 all_goals
  have HE := Lib.hid hE
  go_enter Tryz.func99, Tryz.ntmps99
  go_wp2_with fail
  refine (tells1_any b c d HD.out _ H).mono ?_
  rintro e w1 ⟨rfl, n, rfl⟩
  rw [HT.out, HI.out]
  obtain ⟨-, -, -, -, -, -, -, -, -, -, k10, k11, k12, k13, k14, k15, k16, k17, k18, k19, kf, klt⟩ := Pair.facts (w := w) H
  go_wp2_with fail
  go_region
  go_wp2_with fail
  try go_region
  all_goals
   go_wp2_with fail
   go_ret
   refine ⟨rfl, ?_, by (repeat' (first | (with_reducible exact Keeps.refl _ _) | (with_reducible assumption) | (with_reducible refine Keeps.setOne ?_ _ _) | (with_reducible refine Keeps.alloc ?_ _) | (with_reducible refine Keeps.drew ?_) | (with_reducible refine Keeps.drewN ?_ _)))⟩
   have hT : takeC d 4 = Chip.mk (d.asks &&& 239) (servedC d 4) d.masked d.up d.base d.told d.ends d.stage d.second d.last := rfl
   first
    | (have hS : servedC d 4 = d.served := by (unfold servedC; rw [hE]; rfl)
       rw [hT, hS])
    | (have hS : servedC d 4 = d.served ||| 16 := by (unfold servedC; rw [hE]; rfl)
       rw [hT, hS])
   unfold Pair Chip.cells at H ⊢
   simp only [List.cons_append, List.nil_append] at H ⊢
   (first | (simp only [heap_set_map, putObj_cells, H, Option.map_some, List.set_cons_succ, List.set_cons_zero, heap_drewN]; done) | (simp only [heap_set_map, putObj_cells, H, Option.map_some, List.set_cons_succ, List.set_cons_zero, heap_drewN, heap_drew]; done) | (simp only [heap_set_map, putObj_cells, H, Option.map_some, List.set_cons_succ, List.set_cons_zero, heap_drewN]; rfl) | (simp only [heap_set_map, putObj_cells, H, Option.map_some, List.set_cons_succ, List.set_cons_zero, heap_drewN, heap_drew]; rfl))

theorem take1_5 (b : Nat) (c d : Chip) (hd : d.ok) (w : World) (H : Pair w b c d) (ht : isTold d.asks d.masked d.served = true) (hi : tz8 (left d.asks d.masked) = 5) :
    Calls Tryz.prog 99 #[.pointer (some ⟨b, 0, none⟩), .int .i64 1] w fun e w' => e = .returned (.int .i64 ((d.base : Int) + 5)) ∧ Pair w' b c (takeC d 5) ∧ Keeps (· = b) w w' := by
 have HT := Lib.hid ht
 have HI := Lib.hid hi
 have HD := Lib.hid hd
 have ha := hd.asks
 have hs := hd.served
 have hb := hd.base
 have e1 : bits .andNot .u8 (d.asks : Int) 32 = ((d.asks &&& 223 : Nat) : Int) := u8_andNot_nat d.asks 32 ha (by decide)
 have e5 : bits .or .u8 (d.served : Int) 32 = ((d.served ||| 32 : Nat) : Int) := u8_or_nat d.served 32 hs (by decide)
 clear ht hi hd
 cases hE : d.ends
 all_goals
  have HE := Lib.hid hE
  go_enter Tryz.func99, Tryz.ntmps99
  go_wp2_with fail
  refine (tells1_any b c d HD.out _ H).mono ?_
  rintro e w1 ⟨rfl, n, rfl⟩
  rw [HT.out, HI.out]
  obtain ⟨-, -, -, -, -, -, -, -, -, -, k10, k11, k12, k13, k14, k15, k16, k17, k18, k19, kf, klt⟩ := Pair.facts (w := w) H
  go_wp2_with fail
  go_region
  go_wp2_with fail
  try go_region
  all_goals
   go_wp2_with fail
   go_ret
   refine ⟨rfl, ?_, by (repeat' (first | (with_reducible exact Keeps.refl _ _) | (with_reducible assumption) | (with_reducible refine Keeps.setOne ?_ _ _) | (with_reducible refine Keeps.alloc ?_ _) | (with_reducible refine Keeps.drew ?_) | (with_reducible refine Keeps.drewN ?_ _)))⟩
   have hT : takeC d 5 = Chip.mk (d.asks &&& 223) (servedC d 5) d.masked d.up d.base d.told d.ends d.stage d.second d.last := rfl
   first
    | (have hS : servedC d 5 = d.served := by (unfold servedC; rw [hE]; rfl)
       rw [hT, hS])
    | (have hS : servedC d 5 = d.served ||| 32 := by (unfold servedC; rw [hE]; rfl)
       rw [hT, hS])
   unfold Pair Chip.cells at H ⊢
   simp only [List.cons_append, List.nil_append] at H ⊢
   (first | (simp only [heap_set_map, putObj_cells, H, Option.map_some, List.set_cons_succ, List.set_cons_zero, heap_drewN]; done) | (simp only [heap_set_map, putObj_cells, H, Option.map_some, List.set_cons_succ, List.set_cons_zero, heap_drewN, heap_drew]; done) | (simp only [heap_set_map, putObj_cells, H, Option.map_some, List.set_cons_succ, List.set_cons_zero, heap_drewN]; rfl) | (simp only [heap_set_map, putObj_cells, H, Option.map_some, List.set_cons_succ, List.set_cons_zero, heap_drewN, heap_drew]; rfl))

theorem take1_6 (b : Nat) (c d : Chip) (hd : d.ok) (w : World) (H : Pair w b c d) (ht : isTold d.asks d.masked d.served = true) (hi : tz8 (left d.asks d.masked) = 6) :
    Calls Tryz.prog 99 #[.pointer (some ⟨b, 0, none⟩), .int .i64 1] w fun e w' => e = .returned (.int .i64 ((d.base : Int) + 6)) ∧ Pair w' b c (takeC d 6) ∧ Keeps (· = b) w w' := by
 have HT := Lib.hid ht
 have HI := Lib.hid hi
 have HD := Lib.hid hd
 have ha := hd.asks
 have hs := hd.served
 have hb := hd.base
 have e1 : bits .andNot .u8 (d.asks : Int) 64 = ((d.asks &&& 191 : Nat) : Int) := u8_andNot_nat d.asks 64 ha (by decide)
 have e5 : bits .or .u8 (d.served : Int) 64 = ((d.served ||| 64 : Nat) : Int) := u8_or_nat d.served 64 hs (by decide)
 clear ht hi hd
 cases hE : d.ends
 all_goals
  have HE := Lib.hid hE
  go_enter Tryz.func99, Tryz.ntmps99
  go_wp2_with fail
  refine (tells1_any b c d HD.out _ H).mono ?_
  rintro e w1 ⟨rfl, n, rfl⟩
  rw [HT.out, HI.out]
  obtain ⟨-, -, -, -, -, -, -, -, -, -, k10, k11, k12, k13, k14, k15, k16, k17, k18, k19, kf, klt⟩ := Pair.facts (w := w) H
  go_wp2_with fail
  go_region
  go_wp2_with fail
  try go_region
  all_goals
   go_wp2_with fail
   go_ret
   refine ⟨rfl, ?_, by (repeat' (first | (with_reducible exact Keeps.refl _ _) | (with_reducible assumption) | (with_reducible refine Keeps.setOne ?_ _ _) | (with_reducible refine Keeps.alloc ?_ _) | (with_reducible refine Keeps.drew ?_) | (with_reducible refine Keeps.drewN ?_ _)))⟩
   have hT : takeC d 6 = Chip.mk (d.asks &&& 191) (servedC d 6) d.masked d.up d.base d.told d.ends d.stage d.second d.last := rfl
   first
    | (have hS : servedC d 6 = d.served := by (unfold servedC; rw [hE]; rfl)
       rw [hT, hS])
    | (have hS : servedC d 6 = d.served ||| 64 := by (unfold servedC; rw [hE]; rfl)
       rw [hT, hS])
   unfold Pair Chip.cells at H ⊢
   simp only [List.cons_append, List.nil_append] at H ⊢
   (first | (simp only [heap_set_map, putObj_cells, H, Option.map_some, List.set_cons_succ, List.set_cons_zero, heap_drewN]; done) | (simp only [heap_set_map, putObj_cells, H, Option.map_some, List.set_cons_succ, List.set_cons_zero, heap_drewN, heap_drew]; done) | (simp only [heap_set_map, putObj_cells, H, Option.map_some, List.set_cons_succ, List.set_cons_zero, heap_drewN]; rfl) | (simp only [heap_set_map, putObj_cells, H, Option.map_some, List.set_cons_succ, List.set_cons_zero, heap_drewN, heap_drew]; rfl))

theorem take1_7 (b : Nat) (c d : Chip) (hd : d.ok) (w : World) (H : Pair w b c d) (ht : isTold d.asks d.masked d.served = true) (hi : tz8 (left d.asks d.masked) = 7) :
    Calls Tryz.prog 99 #[.pointer (some ⟨b, 0, none⟩), .int .i64 1] w fun e w' => e = .returned (.int .i64 ((d.base : Int) + 7)) ∧ Pair w' b c (takeC d 7) ∧ Keeps (· = b) w w' := by
 have HT := Lib.hid ht
 have HI := Lib.hid hi
 have HD := Lib.hid hd
 have ha := hd.asks
 have hs := hd.served
 have hb := hd.base
 have e1 : bits .andNot .u8 (d.asks : Int) 128 = ((d.asks &&& 127 : Nat) : Int) := u8_andNot_nat d.asks 128 ha (by decide)
 have e5 : bits .or .u8 (d.served : Int) 128 = ((d.served ||| 128 : Nat) : Int) := u8_or_nat d.served 128 hs (by decide)
 clear ht hi hd
 cases hE : d.ends
 all_goals
  have HE := Lib.hid hE
  go_enter Tryz.func99, Tryz.ntmps99
  go_wp2_with fail
  refine (tells1_any b c d HD.out _ H).mono ?_
  rintro e w1 ⟨rfl, n, rfl⟩
  rw [HT.out, HI.out]
  obtain ⟨-, -, -, -, -, -, -, -, -, -, k10, k11, k12, k13, k14, k15, k16, k17, k18, k19, kf, klt⟩ := Pair.facts (w := w) H
  go_wp2_with fail
  go_region
  go_wp2_with fail
  try go_region
  all_goals
   go_wp2_with fail
   go_ret
   refine ⟨rfl, ?_, by (repeat' (first | (with_reducible exact Keeps.refl _ _) | (with_reducible assumption) | (with_reducible refine Keeps.setOne ?_ _ _) | (with_reducible refine Keeps.alloc ?_ _) | (with_reducible refine Keeps.drew ?_) | (with_reducible refine Keeps.drewN ?_ _)))⟩
   have hT : takeC d 7 = Chip.mk (d.asks &&& 127) (servedC d 7) d.masked d.up d.base d.told d.ends d.stage d.second d.last := rfl
   first
    | (have hS : servedC d 7 = d.served := by (unfold servedC; rw [hE]; rfl)
       rw [hT, hS])
    | (have hS : servedC d 7 = d.served ||| 128 := by (unfold servedC; rw [hE]; rfl)
       rw [hT, hS])
   unfold Pair Chip.cells at H ⊢
   simp only [List.cons_append, List.nil_append] at H ⊢
   (first | (simp only [heap_set_map, putObj_cells, H, Option.map_some, List.set_cons_succ, List.set_cons_zero, heap_drewN]; done) | (simp only [heap_set_map, putObj_cells, H, Option.map_some, List.set_cons_succ, List.set_cons_zero, heap_drewN, heap_drew]; done) | (simp only [heap_set_map, putObj_cells, H, Option.map_some, List.set_cons_succ, List.set_cons_zero, heap_drewN]; rfl) | (simp only [heap_set_map, putObj_cells, H, Option.map_some, List.set_cons_succ, List.set_cons_zero, heap_drewN, heap_drew]; rfl))
end Go.Proofs.YtojmpdddfnkffaaGreat.Pic

/- pic: onward. -/
namespace Go.Proofs.YtojmpdddfnkffaaGreat.Pic
open Go.RowKit
set_option linter.unusedVariables false
set_option linter.unusedSimpArgs false

def scan (s : Nat) (second last : Bool) : Nat := if s = 2 ∧ second = true then 2 else if s < 4 ∧ last = true then 3 else 0
def onC (c : Chip) : Chip := { c with stage := scan (c.stage + 1) c.second c.last }
def till (w : World) (p : Addr) : Nat := match w.cell? p with | some (.int _ n) => (4 - n).toNat | _ => 0
theorem till_of {w : World} {p : Addr} {k : IntKind} {n : Int} (h : w.cell? p = some (.int k n)) : till w p = (4 - n).toNat := by
 unfold till
 rw [h]

theorem onc_fields (b : Nat) (d : Chip) (a s m u bs : Nat) (t e : Bool) (st : Nat) (x y : Bool) (h1 : 1 ≤ st) (h4 : st < 4) (w : World) (H : Pair w b (Chip.mk a s m u bs t e st x y) d) :
    Calls Tryz.prog 102 #[.pointer (some ⟨b, 0, none⟩)] w fun r w' => r = .returned (.tuple #[]) ∧ Pair w' b (Chip.mk a s m u bs t e (scan (st + 1) x y) x y) d ∧ Keeps (· = b) w w' := by
 obtain ⟨k0, k1, k2, k3, k4, k5, k6, k7, k8, k9, k10, k11, k12, k13, k14, k15, k16, k17, k18, k19, kf, klt⟩ := H.facts
 dsimp only at k7 k8 k9
 go_enter Tryz.func102, Tryz.ntmps102
 go_wp2_with fail
 go_loopw [] (fun wr => ∃ st', 2 ≤ st' ∧ st' ≤ 4 ∧ scan st' x y = scan (st + 1) x y ∧ Pair wr b (Chip.mk a s m u bs t e st' x y) d ∧ Keeps (· = b) w wr) (fun wr => till wr ⟨b, 7, none⟩)
 case atStart =>
  refine ⟨st + 1, by omega, by omega, rfl, ?_, by (repeat' (first | (with_reducible exact Keeps.refl _ _) | (with_reducible assumption) | (with_reducible refine Keeps.setOne ?_ _ _) | (with_reducible refine Keeps.alloc ?_ _) | (with_reducible refine Keeps.drew ?_) | (with_reducible refine Keeps.drewN ?_ _)))⟩
  unfold Pair Chip.cells at H ⊢
  simp only [List.cons_append, List.nil_append] at H ⊢
  (first | (simp only [heap_set_map, putObj_cells, H, Option.map_some, List.set_cons_succ, List.set_cons_zero, heap_drewN, heap_drew]; done) | (simp only [heap_set_map, putObj_cells, H, Option.map_some, List.set_cons_succ, List.set_cons_zero, heap_drewN, heap_drew]; rfl))
 case round =>
  obtain ⟨st', h2, h5, hs, H1, hk⟩ := hrel
  have HS := Lib.hid hs
  have hT := till_of (H1.facts.2.2.2.2.2.2.2.1)
  have HT := Lib.hid hT
  clear hs hT kf klt H k0 k1 k2 k3 k4 k5 k6 k7 k8 k9 k10 k11 k12 k13 k14 k15 k16 k17 k18 k19
  have H := H1
  clear H1
  obtain ⟨k0, k1, k2, k3, k4, k5, k6, k7, k8, k9, k10, k11, k12, k13, k14, k15, k16, k17, k18, k19, kf, klt⟩ := H.facts
  obtain rfl | rfl | rfl : st' = 2 ∨ st' = 3 ∨ st' = 4 := by omega
  ·replace k7 : wr.cell? ⟨b, 7, none⟩ = some (.int .i64 2) := k7
   dsimp only at k8 k9
   cases x <;> cases y
   all_goals
    go_wp2_with fail
    first
     | (go_returns
        refine ⟨rfl, ?_, hk⟩
        rw [← HS.out]
        exact H)
     | (go_roundw
        case rel =>
         refine ⟨3, by omega, by omega, HS.out, ?_, by (repeat' (first | (with_reducible exact Keeps.refl _ _) | (with_reducible assumption) | (with_reducible refine Keeps.setOne ?_ _ _) | (with_reducible refine Keeps.alloc ?_ _) | (with_reducible refine Keeps.drew ?_) | (with_reducible refine Keeps.drewN ?_ _)))⟩
         unfold Pair Chip.cells at H ⊢
         simp only [List.cons_append, List.nil_append] at H ⊢
         (first | (simp only [heap_set_map, putObj_cells, H, Option.map_some, List.set_cons_succ, List.set_cons_zero, heap_drewN, heap_drew]; done) | (simp only [heap_set_map, putObj_cells, H, Option.map_some, List.set_cons_succ, List.set_cons_zero, heap_drewN, heap_drew]; rfl))
        case measure =>
         rw [HT.out, till_of (World.cell?_setCell_same _ _ _ k7)]
         exact (by decide : (4 - 3 : Int).toNat < (4 - 2 : Int).toNat))
  ·replace k7 : wr.cell? ⟨b, 7, none⟩ = some (.int .i64 3) := k7
   dsimp only at k8 k9
   cases y
   all_goals
    go_wp2_with fail
    first
     | (go_returns
        refine ⟨rfl, ?_, hk⟩
        rw [← HS.out]
        cases x <;> exact H)
     | (go_roundw
        case rel =>
         refine ⟨4, by omega, by omega, by rw [← HS.out]; cases x <;> rfl, ?_, by (repeat' (first | (with_reducible exact Keeps.refl _ _) | (with_reducible assumption) | (with_reducible refine Keeps.setOne ?_ _ _) | (with_reducible refine Keeps.alloc ?_ _) | (with_reducible refine Keeps.drew ?_) | (with_reducible refine Keeps.drewN ?_ _)))⟩
         unfold Pair Chip.cells at H ⊢
         simp only [List.cons_append, List.nil_append] at H ⊢
         (first | (simp only [heap_set_map, putObj_cells, H, Option.map_some, List.set_cons_succ, List.set_cons_zero, heap_drewN, heap_drew]; done) | (simp only [heap_set_map, putObj_cells, H, Option.map_some, List.set_cons_succ, List.set_cons_zero, heap_drewN, heap_drew]; rfl))
        case measure =>
         rw [HT.out, till_of (World.cell?_setCell_same _ _ _ k7)]
         exact (by decide : (4 - 4 : Int).toNat < (4 - 3 : Int).toNat))
  ·replace k7 : wr.cell? ⟨b, 7, none⟩ = some (.int .i64 4) := k7
   dsimp only at k8 k9
   go_wp2_with fail
   go_returns
   have h0 : scan 4 x y = 0 := by cases x <;> cases y <;> rfl
   rw [← HS.out, h0]
   refine ⟨rfl, ?_, by (repeat' (first | (with_reducible exact Keeps.refl _ _) | (with_reducible assumption) | (with_reducible refine Keeps.setOne ?_ _ _) | (with_reducible refine Keeps.alloc ?_ _) | (with_reducible refine Keeps.drew ?_) | (with_reducible refine Keeps.drewN ?_ _)))⟩
   unfold Pair Chip.cells at H ⊢
   simp only [List.cons_append, List.nil_append] at H ⊢
   (first | (simp only [heap_set_map, putObj_cells, H, Option.map_some, List.set_cons_succ, List.set_cons_zero, heap_drewN, heap_drew]; done) | (simp only [heap_set_map, putObj_cells, H, Option.map_some, List.set_cons_succ, List.set_cons_zero, heap_drewN, heap_drew]; rfl))

theorem ond_fields (b : Nat) (c : Chip) (a s m u bs : Nat) (t e : Bool) (st : Nat) (x y : Bool) (h1 : 1 ≤ st) (h4 : st < 4) (w : World) (H : Pair w b c (Chip.mk a s m u bs t e st x y)) :
    Calls Tryz.prog 102 #[.pointer (some ⟨b, 10, none⟩)] w fun r w' => r = .returned (.tuple #[]) ∧ Pair w' b c (Chip.mk a s m u bs t e (scan (st + 1) x y) x y) ∧ Keeps (· = b) w w' := by
 obtain ⟨k0, k1, k2, k3, k4, k5, k6, k7, k8, k9, k10, k11, k12, k13, k14, k15, k16, k17, k18, k19, kf, klt⟩ := H.facts
 dsimp only at k17 k18 k19
 go_enter Tryz.func102, Tryz.ntmps102
 go_wp2_with fail
 go_loopw [] (fun wr => ∃ st', 2 ≤ st' ∧ st' ≤ 4 ∧ scan st' x y = scan (st + 1) x y ∧ Pair wr b c (Chip.mk a s m u bs t e st' x y) ∧ Keeps (· = b) w wr) (fun wr => till wr ⟨b, 17, none⟩)
 case atStart =>
  refine ⟨st + 1, by omega, by omega, rfl, ?_, by (repeat' (first | (with_reducible exact Keeps.refl _ _) | (with_reducible assumption) | (with_reducible refine Keeps.setOne ?_ _ _) | (with_reducible refine Keeps.alloc ?_ _) | (with_reducible refine Keeps.drew ?_) | (with_reducible refine Keeps.drewN ?_ _)))⟩
  unfold Pair Chip.cells at H ⊢
  simp only [List.cons_append, List.nil_append] at H ⊢
  (first | (simp only [heap_set_map, putObj_cells, H, Option.map_some, List.set_cons_succ, List.set_cons_zero, heap_drewN, heap_drew]; done) | (simp only [heap_set_map, putObj_cells, H, Option.map_some, List.set_cons_succ, List.set_cons_zero, heap_drewN, heap_drew]; rfl))
 case round =>
  obtain ⟨st', h2, h5, hs, H1, hk⟩ := hrel
  have HS := Lib.hid hs
  have hT := till_of (H1.facts.2.2.2.2.2.2.2.2.2.2.2.2.2.2.2.2.2.1)
  have HT := Lib.hid hT
  clear hs hT kf klt H k0 k1 k2 k3 k4 k5 k6 k7 k8 k9 k10 k11 k12 k13 k14 k15 k16 k17 k18 k19
  have H := H1
  clear H1
  obtain ⟨k0, k1, k2, k3, k4, k5, k6, k7, k8, k9, k10, k11, k12, k13, k14, k15, k16, k17, k18, k19, kf, klt⟩ := H.facts
  obtain rfl | rfl | rfl : st' = 2 ∨ st' = 3 ∨ st' = 4 := by omega
  ·replace k17 : wr.cell? ⟨b, 17, none⟩ = some (.int .i64 2) := k17
   dsimp only at k18 k19
   cases x <;> cases y
   all_goals
    go_wp2_with fail
    first
     | (go_returns
        refine ⟨rfl, ?_, hk⟩
        rw [← HS.out]
        exact H)
     | (go_roundw
        case rel =>
         refine ⟨3, by omega, by omega, HS.out, ?_, by (repeat' (first | (with_reducible exact Keeps.refl _ _) | (with_reducible assumption) | (with_reducible refine Keeps.setOne ?_ _ _) | (with_reducible refine Keeps.alloc ?_ _) | (with_reducible refine Keeps.drew ?_) | (with_reducible refine Keeps.drewN ?_ _)))⟩
         unfold Pair Chip.cells at H ⊢
         simp only [List.cons_append, List.nil_append] at H ⊢
         (first | (simp only [heap_set_map, putObj_cells, H, Option.map_some, List.set_cons_succ, List.set_cons_zero, heap_drewN, heap_drew]; done) | (simp only [heap_set_map, putObj_cells, H, Option.map_some, List.set_cons_succ, List.set_cons_zero, heap_drewN, heap_drew]; rfl))
        case measure =>
         rw [HT.out, till_of (World.cell?_setCell_same _ _ _ k17)]
         exact (by decide : (4 - 3 : Int).toNat < (4 - 2 : Int).toNat))
  ·replace k17 : wr.cell? ⟨b, 17, none⟩ = some (.int .i64 3) := k17
   dsimp only at k18 k19
   cases y
   all_goals
    go_wp2_with fail
    first
     | (go_returns
        refine ⟨rfl, ?_, hk⟩
        rw [← HS.out]
        cases x <;> exact H)
     | (go_roundw
        case rel =>
         refine ⟨4, by omega, by omega, by rw [← HS.out]; cases x <;> rfl, ?_, by (repeat' (first | (with_reducible exact Keeps.refl _ _) | (with_reducible assumption) | (with_reducible refine Keeps.setOne ?_ _ _) | (with_reducible refine Keeps.alloc ?_ _) | (with_reducible refine Keeps.drew ?_) | (with_reducible refine Keeps.drewN ?_ _)))⟩
         unfold Pair Chip.cells at H ⊢
         simp only [List.cons_append, List.nil_append] at H ⊢
         (first | (simp only [heap_set_map, putObj_cells, H, Option.map_some, List.set_cons_succ, List.set_cons_zero, heap_drewN, heap_drew]; done) | (simp only [heap_set_map, putObj_cells, H, Option.map_some, List.set_cons_succ, List.set_cons_zero, heap_drewN, heap_drew]; rfl))
        case measure =>
         rw [HT.out, till_of (World.cell?_setCell_same _ _ _ k17)]
         exact (by decide : (4 - 4 : Int).toNat < (4 - 3 : Int).toNat))
  ·replace k17 : wr.cell? ⟨b, 17, none⟩ = some (.int .i64 4) := k17
   dsimp only at k18 k19
   go_wp2_with fail
   go_returns
   have h0 : scan 4 x y = 0 := by cases x <;> cases y <;> rfl
   rw [← HS.out, h0]
   refine ⟨rfl, ?_, by (repeat' (first | (with_reducible exact Keeps.refl _ _) | (with_reducible assumption) | (with_reducible refine Keeps.setOne ?_ _ _) | (with_reducible refine Keeps.alloc ?_ _) | (with_reducible refine Keeps.drew ?_) | (with_reducible refine Keeps.drewN ?_ _)))⟩
   unfold Pair Chip.cells at H ⊢
   simp only [List.cons_append, List.nil_append] at H ⊢
   (first | (simp only [heap_set_map, putObj_cells, H, Option.map_some, List.set_cons_succ, List.set_cons_zero, heap_drewN, heap_drew]; done) | (simp only [heap_set_map, putObj_cells, H, Option.map_some, List.set_cons_succ, List.set_cons_zero, heap_drewN, heap_drew]; rfl))

theorem onward_c (b : Nat) (c d : Chip) (h1 : c.stage ≠ 0) (h4 : c.stage < 4) (w : World) (H : Pair w b c d) :
    Calls Tryz.prog 102 #[.pointer (some ⟨b, 0, none⟩)] w fun r w' => r = .returned (.tuple #[]) ∧ Pair w' b (onC c) d ∧ Keeps (· = b) w w' := by
 obtain ⟨a, s, m, u, bs, t, e, st, x, y⟩ := c
 dsimp only at h1 h4
 exact onc_fields b d a s m u bs t e st x y (by omega) h4 w H

theorem onward_d (b : Nat) (c d : Chip) (h1 : d.stage ≠ 0) (h4 : d.stage < 4) (w : World) (H : Pair w b c d) :
    Calls Tryz.prog 102 #[.pointer (some ⟨b, 10, none⟩)] w fun r w' => r = .returned (.tuple #[]) ∧ Pair w' b c (onC d) ∧ Keeps (· = b) w w' := by
 obtain ⟨a, s, m, u, bs, t, e, st, x, y⟩ := d
 dsimp only at h1 h4
 exact ond_fields b c a s m u bs t e st x y (by omega) h4 w H
end Go.Proofs.YtojmpdddfnkffaaGreat.Pic

/- pic: Out$1. -/
namespace Go.Proofs.YtojmpdddfnkffaaGreat.Pic
open Go.RowKit
set_option linter.unusedVariables false
set_option linter.unusedSimpArgs false

theorem and_bit (v m : Nat) (hm : m = 1 ∨ m = 2 ∨ m = 8 ∨ m = 16) (hv : v < 256) : v &&& m = 0 ∨ v &&& m = m := by
 have h : ∀ y : Fin 256, (y.val &&& 1 = 0 ∨ y.val &&& 1 = 1) ∧ (y.val &&& 2 = 0 ∨ y.val &&& 2 = 2) ∧ (y.val &&& 8 = 0 ∨ y.val &&& 8 = 8) ∧ (y.val &&& 16 = 0 ∨ y.val &&& 16 = 16) := by decide +kernel
 have := h ⟨v, hv⟩
 rcases hm with rfl | rfl | rfl | rfl
 ·exact this.1
 ·exact this.2.1
 ·exact this.2.2.1
 ·exact this.2.2.2
def bit (v m : Nat) : Bool := v &&& m != 0
def outC (c : Chip) (command : Bool) (v : Nat) : Chip :=
 if command then
  if bit v 16 then Chip.mk 0 0 0 c.up c.base false false 1 (!bit v 2) (bit v 1)
  else if bit v 8 then (if bit v 2 then { c with told := bit v 1 } else c)
  else if v / 32 = 1 then { c with served := c.served &&& ((c.served + 255) % 256) }
  else if v / 32 = 3 then { c with served := c.served &&& (255 - 2 ^ (v &&& 7)) }
  else c
 else if c.stage = 0 then { c with masked := v }
 else if c.stage = 1 then onC { c with base := v &&& 248 }
 else if c.stage = 3 then onC { c with ends := bit v 2 }
 else onC c

theorem o16_00_c (b k : Nat) (c d : Chip) (hok : c.ok) (v : Nat) (hv : v < 256) (h16 : v &&& 16 = 16) (h2 : v &&& 2 = 0) (h1 : v &&& 1 = 0) (w : World) (H : Pair w b c d) (kv : w.cell? ⟨k, 0, none⟩ = some (.int .u8 v)) (hkb : k ≠ b) :
    Calls Tryz.prog 101 #[.pointer (some ⟨b, 0, none⟩), .bool true, .pointer (some ⟨k, 0, none⟩)] w fun r w' => r = .returned (.tuple #[]) ∧ Pair w' b (Chip.mk 0 0 0 c.up c.base false false 1 true false) d ∧ Keeps (· = b) w w' := by
 obtain ⟨k0, k1, k2, k3, k4, k5, k6, k7, k8, k9, k10, k11, k12, k13, k14, k15, k16, k17, k18, k19, kf, klt⟩ := H.facts
 have e16 : bits .and .u8 (v : Int) 16 = 16 := by
  have h := u8_and_nat v 16 hv (by decide)
  rw [h16] at h
  exact h
 have e2 : bits .and .u8 (v : Int) 2 = 0 := by
  have h := u8_and_nat v 2 hv (by decide)
  rw [h2] at h
  exact h
 have e1 : bits .and .u8 (v : Int) 1 = 0 := by
  have h := u8_and_nat v 1 hv (by decide)
  rw [h1] at h
  exact h
 go_enter Tryz.func101, Tryz.ntmps101
 go_wp2_with fail
 go_region
 go_wp2_with fail
 go_returns
 refine ⟨rfl, ?_, by (repeat' (first | (with_reducible exact Keeps.refl _ _) | (with_reducible exact hk) | (with_reducible refine Keeps.setOne ?_ _ _) | (with_reducible refine Keeps.alloc ?_ _) | (with_reducible refine Keeps.drew ?_) | (with_reducible refine Keeps.drewN ?_ _)))⟩
 unfold Pair Chip.cells at H ⊢
 simp only [List.cons_append, List.nil_append] at H ⊢
 (first | (simp only [heap_set_map, putObj_cells, H, Option.map_some, List.set_cons_succ, List.set_cons_zero, heap_drewN, heap_drew]; done) | (simp only [heap_set_map, putObj_cells, H, Option.map_some, List.set_cons_succ, List.set_cons_zero, heap_drewN, heap_drew]; rfl))

theorem o16_01_c (b k : Nat) (c d : Chip) (hok : c.ok) (v : Nat) (hv : v < 256) (h16 : v &&& 16 = 16) (h2 : v &&& 2 = 0) (h1 : v &&& 1 = 1) (w : World) (H : Pair w b c d) (kv : w.cell? ⟨k, 0, none⟩ = some (.int .u8 v)) (hkb : k ≠ b) :
    Calls Tryz.prog 101 #[.pointer (some ⟨b, 0, none⟩), .bool true, .pointer (some ⟨k, 0, none⟩)] w fun r w' => r = .returned (.tuple #[]) ∧ Pair w' b (Chip.mk 0 0 0 c.up c.base false false 1 true true) d ∧ Keeps (· = b) w w' := by
 obtain ⟨k0, k1, k2, k3, k4, k5, k6, k7, k8, k9, k10, k11, k12, k13, k14, k15, k16, k17, k18, k19, kf, klt⟩ := H.facts
 have e16 : bits .and .u8 (v : Int) 16 = 16 := by
  have h := u8_and_nat v 16 hv (by decide)
  rw [h16] at h
  exact h
 have e2 : bits .and .u8 (v : Int) 2 = 0 := by
  have h := u8_and_nat v 2 hv (by decide)
  rw [h2] at h
  exact h
 have e1 : bits .and .u8 (v : Int) 1 = 1 := by
  have h := u8_and_nat v 1 hv (by decide)
  rw [h1] at h
  exact h
 go_enter Tryz.func101, Tryz.ntmps101
 go_wp2_with fail
 go_region
 go_wp2_with fail
 go_returns
 refine ⟨rfl, ?_, by (repeat' (first | (with_reducible exact Keeps.refl _ _) | (with_reducible exact hk) | (with_reducible refine Keeps.setOne ?_ _ _) | (with_reducible refine Keeps.alloc ?_ _) | (with_reducible refine Keeps.drew ?_) | (with_reducible refine Keeps.drewN ?_ _)))⟩
 unfold Pair Chip.cells at H ⊢
 simp only [List.cons_append, List.nil_append] at H ⊢
 (first | (simp only [heap_set_map, putObj_cells, H, Option.map_some, List.set_cons_succ, List.set_cons_zero, heap_drewN, heap_drew]; done) | (simp only [heap_set_map, putObj_cells, H, Option.map_some, List.set_cons_succ, List.set_cons_zero, heap_drewN, heap_drew]; rfl))

theorem o16_10_c (b k : Nat) (c d : Chip) (hok : c.ok) (v : Nat) (hv : v < 256) (h16 : v &&& 16 = 16) (h2 : v &&& 2 = 2) (h1 : v &&& 1 = 0) (w : World) (H : Pair w b c d) (kv : w.cell? ⟨k, 0, none⟩ = some (.int .u8 v)) (hkb : k ≠ b) :
    Calls Tryz.prog 101 #[.pointer (some ⟨b, 0, none⟩), .bool true, .pointer (some ⟨k, 0, none⟩)] w fun r w' => r = .returned (.tuple #[]) ∧ Pair w' b (Chip.mk 0 0 0 c.up c.base false false 1 false false) d ∧ Keeps (· = b) w w' := by
 obtain ⟨k0, k1, k2, k3, k4, k5, k6, k7, k8, k9, k10, k11, k12, k13, k14, k15, k16, k17, k18, k19, kf, klt⟩ := H.facts
 have e16 : bits .and .u8 (v : Int) 16 = 16 := by
  have h := u8_and_nat v 16 hv (by decide)
  rw [h16] at h
  exact h
 have e2 : bits .and .u8 (v : Int) 2 = 2 := by
  have h := u8_and_nat v 2 hv (by decide)
  rw [h2] at h
  exact h
 have e1 : bits .and .u8 (v : Int) 1 = 0 := by
  have h := u8_and_nat v 1 hv (by decide)
  rw [h1] at h
  exact h
 go_enter Tryz.func101, Tryz.ntmps101
 go_wp2_with fail
 go_region
 go_wp2_with fail
 go_returns
 refine ⟨rfl, ?_, by (repeat' (first | (with_reducible exact Keeps.refl _ _) | (with_reducible exact hk) | (with_reducible refine Keeps.setOne ?_ _ _) | (with_reducible refine Keeps.alloc ?_ _) | (with_reducible refine Keeps.drew ?_) | (with_reducible refine Keeps.drewN ?_ _)))⟩
 unfold Pair Chip.cells at H ⊢
 simp only [List.cons_append, List.nil_append] at H ⊢
 (first | (simp only [heap_set_map, putObj_cells, H, Option.map_some, List.set_cons_succ, List.set_cons_zero, heap_drewN, heap_drew]; done) | (simp only [heap_set_map, putObj_cells, H, Option.map_some, List.set_cons_succ, List.set_cons_zero, heap_drewN, heap_drew]; rfl))

theorem o16_11_c (b k : Nat) (c d : Chip) (hok : c.ok) (v : Nat) (hv : v < 256) (h16 : v &&& 16 = 16) (h2 : v &&& 2 = 2) (h1 : v &&& 1 = 1) (w : World) (H : Pair w b c d) (kv : w.cell? ⟨k, 0, none⟩ = some (.int .u8 v)) (hkb : k ≠ b) :
    Calls Tryz.prog 101 #[.pointer (some ⟨b, 0, none⟩), .bool true, .pointer (some ⟨k, 0, none⟩)] w fun r w' => r = .returned (.tuple #[]) ∧ Pair w' b (Chip.mk 0 0 0 c.up c.base false false 1 false true) d ∧ Keeps (· = b) w w' := by
 obtain ⟨k0, k1, k2, k3, k4, k5, k6, k7, k8, k9, k10, k11, k12, k13, k14, k15, k16, k17, k18, k19, kf, klt⟩ := H.facts
 have e16 : bits .and .u8 (v : Int) 16 = 16 := by
  have h := u8_and_nat v 16 hv (by decide)
  rw [h16] at h
  exact h
 have e2 : bits .and .u8 (v : Int) 2 = 2 := by
  have h := u8_and_nat v 2 hv (by decide)
  rw [h2] at h
  exact h
 have e1 : bits .and .u8 (v : Int) 1 = 1 := by
  have h := u8_and_nat v 1 hv (by decide)
  rw [h1] at h
  exact h
 go_enter Tryz.func101, Tryz.ntmps101
 go_wp2_with fail
 go_region
 go_wp2_with fail
 go_returns
 refine ⟨rfl, ?_, by (repeat' (first | (with_reducible exact Keeps.refl _ _) | (with_reducible exact hk) | (with_reducible refine Keeps.setOne ?_ _ _) | (with_reducible refine Keeps.alloc ?_ _) | (with_reducible refine Keeps.drew ?_) | (with_reducible refine Keeps.drewN ?_ _)))⟩
 unfold Pair Chip.cells at H ⊢
 simp only [List.cons_append, List.nil_append] at H ⊢
 (first | (simp only [heap_set_map, putObj_cells, H, Option.map_some, List.set_cons_succ, List.set_cons_zero, heap_drewN, heap_drew]; done) | (simp only [heap_set_map, putObj_cells, H, Option.map_some, List.set_cons_succ, List.set_cons_zero, heap_drewN, heap_drew]; rfl))

theorem o8_0_c (b k : Nat) (c d : Chip) (hok : c.ok) (v : Nat) (hv : v < 256) (h16 : v &&& 16 = 0) (h8 : v &&& 8 = 8) (h2 : v &&& 2 = 2) (h1 : v &&& 1 = 0) (w : World) (H : Pair w b c d) (kv : w.cell? ⟨k, 0, none⟩ = some (.int .u8 v)) (hkb : k ≠ b) :
    Calls Tryz.prog 101 #[.pointer (some ⟨b, 0, none⟩), .bool true, .pointer (some ⟨k, 0, none⟩)] w fun r w' => r = .returned (.tuple #[]) ∧ Pair w' b ({ c with told := false }) d ∧ Keeps (· = b) w w' := by
 obtain ⟨k0, k1, k2, k3, k4, k5, k6, k7, k8, k9, k10, k11, k12, k13, k14, k15, k16, k17, k18, k19, kf, klt⟩ := H.facts
 have e16 : bits .and .u8 (v : Int) 16 = 0 := by
  have h := u8_and_nat v 16 hv (by decide)
  rw [h16] at h
  exact h
 have e8 : bits .and .u8 (v : Int) 8 = 8 := by
  have h := u8_and_nat v 8 hv (by decide)
  rw [h8] at h
  exact h
 have e2 : bits .and .u8 (v : Int) 2 = 2 := by
  have h := u8_and_nat v 2 hv (by decide)
  rw [h2] at h
  exact h
 have e1 : bits .and .u8 (v : Int) 1 = 0 := by
  have h := u8_and_nat v 1 hv (by decide)
  rw [h1] at h
  exact h
 go_enter Tryz.func101, Tryz.ntmps101
 go_wp2_with fail
 go_returns
 refine ⟨rfl, ?_, by (repeat' (first | (with_reducible exact Keeps.refl _ _) | (with_reducible exact hk) | (with_reducible refine Keeps.setOne ?_ _ _) | (with_reducible refine Keeps.alloc ?_ _) | (with_reducible refine Keeps.drew ?_) | (with_reducible refine Keeps.drewN ?_ _)))⟩
 unfold Pair Chip.cells at H ⊢
 simp only [List.cons_append, List.nil_append] at H ⊢
 (first | (simp only [heap_set_map, putObj_cells, H, Option.map_some, List.set_cons_succ, List.set_cons_zero, heap_drewN, heap_drew]; done) | (simp only [heap_set_map, putObj_cells, H, Option.map_some, List.set_cons_succ, List.set_cons_zero, heap_drewN, heap_drew]; rfl))

theorem o8_1_c (b k : Nat) (c d : Chip) (hok : c.ok) (v : Nat) (hv : v < 256) (h16 : v &&& 16 = 0) (h8 : v &&& 8 = 8) (h2 : v &&& 2 = 2) (h1 : v &&& 1 = 1) (w : World) (H : Pair w b c d) (kv : w.cell? ⟨k, 0, none⟩ = some (.int .u8 v)) (hkb : k ≠ b) :
    Calls Tryz.prog 101 #[.pointer (some ⟨b, 0, none⟩), .bool true, .pointer (some ⟨k, 0, none⟩)] w fun r w' => r = .returned (.tuple #[]) ∧ Pair w' b ({ c with told := true }) d ∧ Keeps (· = b) w w' := by
 obtain ⟨k0, k1, k2, k3, k4, k5, k6, k7, k8, k9, k10, k11, k12, k13, k14, k15, k16, k17, k18, k19, kf, klt⟩ := H.facts
 have e16 : bits .and .u8 (v : Int) 16 = 0 := by
  have h := u8_and_nat v 16 hv (by decide)
  rw [h16] at h
  exact h
 have e8 : bits .and .u8 (v : Int) 8 = 8 := by
  have h := u8_and_nat v 8 hv (by decide)
  rw [h8] at h
  exact h
 have e2 : bits .and .u8 (v : Int) 2 = 2 := by
  have h := u8_and_nat v 2 hv (by decide)
  rw [h2] at h
  exact h
 have e1 : bits .and .u8 (v : Int) 1 = 1 := by
  have h := u8_and_nat v 1 hv (by decide)
  rw [h1] at h
  exact h
 go_enter Tryz.func101, Tryz.ntmps101
 go_wp2_with fail
 go_returns
 refine ⟨rfl, ?_, by (repeat' (first | (with_reducible exact Keeps.refl _ _) | (with_reducible exact hk) | (with_reducible refine Keeps.setOne ?_ _ _) | (with_reducible refine Keeps.alloc ?_ _) | (with_reducible refine Keeps.drew ?_) | (with_reducible refine Keeps.drewN ?_ _)))⟩
 unfold Pair Chip.cells at H ⊢
 simp only [List.cons_append, List.nil_append] at H ⊢
 (first | (simp only [heap_set_map, putObj_cells, H, Option.map_some, List.set_cons_succ, List.set_cons_zero, heap_drewN, heap_drew]; done) | (simp only [heap_set_map, putObj_cells, H, Option.map_some, List.set_cons_succ, List.set_cons_zero, heap_drewN, heap_drew]; rfl))

theorem o8_n_c (b k : Nat) (c d : Chip) (hok : c.ok) (v : Nat) (hv : v < 256) (h16 : v &&& 16 = 0) (h8 : v &&& 8 = 8) (h2 : v &&& 2 = 0) (w : World) (H : Pair w b c d) (kv : w.cell? ⟨k, 0, none⟩ = some (.int .u8 v)) (hkb : k ≠ b) :
    Calls Tryz.prog 101 #[.pointer (some ⟨b, 0, none⟩), .bool true, .pointer (some ⟨k, 0, none⟩)] w fun r w' => r = .returned (.tuple #[]) ∧ Pair w' b (c) d ∧ Keeps (· = b) w w' := by
 obtain ⟨k0, k1, k2, k3, k4, k5, k6, k7, k8, k9, k10, k11, k12, k13, k14, k15, k16, k17, k18, k19, kf, klt⟩ := H.facts
 have e16 : bits .and .u8 (v : Int) 16 = 0 := by
  have h := u8_and_nat v 16 hv (by decide)
  rw [h16] at h
  exact h
 have e8 : bits .and .u8 (v : Int) 8 = 8 := by
  have h := u8_and_nat v 8 hv (by decide)
  rw [h8] at h
  exact h
 have e2 : bits .and .u8 (v : Int) 2 = 0 := by
  have h := u8_and_nat v 2 hv (by decide)
  rw [h2] at h
  exact h
 go_enter Tryz.func101, Tryz.ntmps101
 go_wp2_with fail
 go_returns
 exact ⟨rfl, H, Keeps.refl _ _⟩

theorem o1_c (b k : Nat) (c d : Chip) (hok : c.ok) (v : Nat) (hv : v < 256) (h16 : v &&& 16 = 0) (h8 : v &&& 8 = 0) (h5 : v / 32 = 1) (hz : 0 < c.served) (w : World) (H : Pair w b c d) (kv : w.cell? ⟨k, 0, none⟩ = some (.int .u8 v)) (hkb : k ≠ b) :
    Calls Tryz.prog 101 #[.pointer (some ⟨b, 0, none⟩), .bool true, .pointer (some ⟨k, 0, none⟩)] w fun r w' => r = .returned (.tuple #[]) ∧ Pair w' b ({ c with served := c.served &&& ((c.served + 255) % 256) }) d ∧ Keeps (· = b) w w' := by
 obtain ⟨k0, k1, k2, k3, k4, k5, k6, k7, k8, k9, k10, k11, k12, k13, k14, k15, k16, k17, k18, k19, kf, klt⟩ := H.facts
 have e16 : bits .and .u8 (v : Int) 16 = 0 := by
  have h := u8_and_nat v 16 hv (by decide)
  rw [h16] at h
  exact h
 have e8 : bits .and .u8 (v : Int) 8 = 0 := by
  have h := u8_and_nat v 8 hv (by decide)
  rw [h8] at h
  exact h
 have hs := hok.served
 have es : bits .and .u8 (c.served : Int) ((c.served : Int) - 1) = ((c.served &&& ((c.served + 255) % 256) : Nat) : Int) := by
  have h := u8_and_nat c.served ((c.served + 255) % 256) hs (Nat.mod_lt _ (by decide))
  rw [← h]
  congr 1
  omega
 go_enter Tryz.func101, Tryz.ntmps101
 go_wp2_with fail
 go_region
 go_wp2_with fail
 go_returns
 refine ⟨rfl, ?_, by (repeat' (first | (with_reducible exact Keeps.refl _ _) | (with_reducible exact hk) | (with_reducible refine Keeps.setOne ?_ _ _) | (with_reducible refine Keeps.alloc ?_ _) | (with_reducible refine Keeps.drew ?_) | (with_reducible refine Keeps.drewN ?_ _)))⟩
 unfold Pair Chip.cells at H ⊢
 simp only [List.cons_append, List.nil_append] at H ⊢
 (first | (simp only [heap_set_map, putObj_cells, H, Option.map_some, List.set_cons_succ, List.set_cons_zero, heap_drewN, heap_drew]; done) | (simp only [heap_set_map, putObj_cells, H, Option.map_some, List.set_cons_succ, List.set_cons_zero, heap_drewN, heap_drew]; rfl))

theorem o1z_c (b k : Nat) (c d : Chip) (hok : c.ok) (v : Nat) (hv : v < 256) (h16 : v &&& 16 = 0) (h8 : v &&& 8 = 0) (h5 : v / 32 = 1) (hz : c.served = 0) (w : World) (H : Pair w b c d) (kv : w.cell? ⟨k, 0, none⟩ = some (.int .u8 v)) (hkb : k ≠ b) :
    Calls Tryz.prog 101 #[.pointer (some ⟨b, 0, none⟩), .bool true, .pointer (some ⟨k, 0, none⟩)] w fun r w' => r = .returned (.tuple #[]) ∧ Pair w' b ({ c with served := 0 }) d ∧ Keeps (· = b) w w' := by
 obtain ⟨k0, k1, k2, k3, k4, k5, k6, k7, k8, k9, k10, k11, k12, k13, k14, k15, k16, k17, k18, k19, kf, klt⟩ := H.facts
 have e16 : bits .and .u8 (v : Int) 16 = 0 := by
  have h := u8_and_nat v 16 hv (by decide)
  rw [h16] at h
  exact h
 have e8 : bits .and .u8 (v : Int) 8 = 0 := by
  have h := u8_and_nat v 8 hv (by decide)
  rw [h8] at h
  exact h
 have hs := hok.served
 have es : bits .and .u8 0 255 = 0 := by decide
 rw [hz] at k1
 go_enter Tryz.func101, Tryz.ntmps101
 go_wp2_with fail
 go_region
 go_wp2_with fail
 go_returns
 refine ⟨rfl, ?_, by (repeat' (first | (with_reducible exact Keeps.refl _ _) | (with_reducible exact hk) | (with_reducible refine Keeps.setOne ?_ _ _) | (with_reducible refine Keeps.alloc ?_ _) | (with_reducible refine Keeps.drew ?_) | (with_reducible refine Keeps.drewN ?_ _)))⟩
 unfold Pair Chip.cells at H ⊢
 simp only [List.cons_append, List.nil_append] at H ⊢
 (first | (simp only [heap_set_map, putObj_cells, H, Option.map_some, List.set_cons_succ, List.set_cons_zero, heap_drewN, heap_drew]; done) | (simp only [heap_set_map, putObj_cells, H, Option.map_some, List.set_cons_succ, List.set_cons_zero, heap_drewN, heap_drew]; rfl))

theorem o3_0_c (b k : Nat) (c d : Chip) (hok : c.ok) (v : Nat) (hv : v < 256) (h16 : v &&& 16 = 0) (h8 : v &&& 8 = 0) (h5 : v / 32 = 3) (h7 : v &&& 7 = 0) (w : World) (H : Pair w b c d) (kv : w.cell? ⟨k, 0, none⟩ = some (.int .u8 v)) (hkb : k ≠ b) :
    Calls Tryz.prog 101 #[.pointer (some ⟨b, 0, none⟩), .bool true, .pointer (some ⟨k, 0, none⟩)] w fun r w' => r = .returned (.tuple #[]) ∧ Pair w' b ({ c with served := c.served &&& 254 }) d ∧ Keeps (· = b) w w' := by
 obtain ⟨k0, k1, k2, k3, k4, k5, k6, k7, k8, k9, k10, k11, k12, k13, k14, k15, k16, k17, k18, k19, kf, klt⟩ := H.facts
 have e16 : bits .and .u8 (v : Int) 16 = 0 := by
  have h := u8_and_nat v 16 hv (by decide)
  rw [h16] at h
  exact h
 have e8 : bits .and .u8 (v : Int) 8 = 0 := by
  have h := u8_and_nat v 8 hv (by decide)
  rw [h8] at h
  exact h
 have e7 : bits .and .u8 (v : Int) 7 = 0 := by
  have h := u8_and_nat v 7 hv (by decide)
  rw [h7] at h
  exact h
 have es : bits .andNot .u8 (c.served : Int) 1 = ((c.served &&& 254 : Nat) : Int) := u8_andNot_nat c.served 1 hok.served (by decide)
 go_enter Tryz.func101, Tryz.ntmps101
 go_wp2_with fail
 go_region
 go_wp2_with fail
 go_returns
 refine ⟨rfl, ?_, by (repeat' (first | (with_reducible exact Keeps.refl _ _) | (with_reducible exact hk) | (with_reducible refine Keeps.setOne ?_ _ _) | (with_reducible refine Keeps.alloc ?_ _) | (with_reducible refine Keeps.drew ?_) | (with_reducible refine Keeps.drewN ?_ _)))⟩
 unfold Pair Chip.cells at H ⊢
 simp only [List.cons_append, List.nil_append] at H ⊢
 (first | (simp only [heap_set_map, putObj_cells, H, Option.map_some, List.set_cons_succ, List.set_cons_zero, heap_drewN, heap_drew]; done) | (simp only [heap_set_map, putObj_cells, H, Option.map_some, List.set_cons_succ, List.set_cons_zero, heap_drewN, heap_drew]; rfl))

theorem o3_1_c (b k : Nat) (c d : Chip) (hok : c.ok) (v : Nat) (hv : v < 256) (h16 : v &&& 16 = 0) (h8 : v &&& 8 = 0) (h5 : v / 32 = 3) (h7 : v &&& 7 = 1) (w : World) (H : Pair w b c d) (kv : w.cell? ⟨k, 0, none⟩ = some (.int .u8 v)) (hkb : k ≠ b) :
    Calls Tryz.prog 101 #[.pointer (some ⟨b, 0, none⟩), .bool true, .pointer (some ⟨k, 0, none⟩)] w fun r w' => r = .returned (.tuple #[]) ∧ Pair w' b ({ c with served := c.served &&& 253 }) d ∧ Keeps (· = b) w w' := by
 obtain ⟨k0, k1, k2, k3, k4, k5, k6, k7, k8, k9, k10, k11, k12, k13, k14, k15, k16, k17, k18, k19, kf, klt⟩ := H.facts
 have e16 : bits .and .u8 (v : Int) 16 = 0 := by
  have h := u8_and_nat v 16 hv (by decide)
  rw [h16] at h
  exact h
 have e8 : bits .and .u8 (v : Int) 8 = 0 := by
  have h := u8_and_nat v 8 hv (by decide)
  rw [h8] at h
  exact h
 have e7 : bits .and .u8 (v : Int) 7 = 1 := by
  have h := u8_and_nat v 7 hv (by decide)
  rw [h7] at h
  exact h
 have es : bits .andNot .u8 (c.served : Int) 2 = ((c.served &&& 253 : Nat) : Int) := u8_andNot_nat c.served 2 hok.served (by decide)
 go_enter Tryz.func101, Tryz.ntmps101
 go_wp2_with fail
 go_region
 go_wp2_with fail
 go_returns
 refine ⟨rfl, ?_, by (repeat' (first | (with_reducible exact Keeps.refl _ _) | (with_reducible exact hk) | (with_reducible refine Keeps.setOne ?_ _ _) | (with_reducible refine Keeps.alloc ?_ _) | (with_reducible refine Keeps.drew ?_) | (with_reducible refine Keeps.drewN ?_ _)))⟩
 unfold Pair Chip.cells at H ⊢
 simp only [List.cons_append, List.nil_append] at H ⊢
 (first | (simp only [heap_set_map, putObj_cells, H, Option.map_some, List.set_cons_succ, List.set_cons_zero, heap_drewN, heap_drew]; done) | (simp only [heap_set_map, putObj_cells, H, Option.map_some, List.set_cons_succ, List.set_cons_zero, heap_drewN, heap_drew]; rfl))

theorem o3_2_c (b k : Nat) (c d : Chip) (hok : c.ok) (v : Nat) (hv : v < 256) (h16 : v &&& 16 = 0) (h8 : v &&& 8 = 0) (h5 : v / 32 = 3) (h7 : v &&& 7 = 2) (w : World) (H : Pair w b c d) (kv : w.cell? ⟨k, 0, none⟩ = some (.int .u8 v)) (hkb : k ≠ b) :
    Calls Tryz.prog 101 #[.pointer (some ⟨b, 0, none⟩), .bool true, .pointer (some ⟨k, 0, none⟩)] w fun r w' => r = .returned (.tuple #[]) ∧ Pair w' b ({ c with served := c.served &&& 251 }) d ∧ Keeps (· = b) w w' := by
 obtain ⟨k0, k1, k2, k3, k4, k5, k6, k7, k8, k9, k10, k11, k12, k13, k14, k15, k16, k17, k18, k19, kf, klt⟩ := H.facts
 have e16 : bits .and .u8 (v : Int) 16 = 0 := by
  have h := u8_and_nat v 16 hv (by decide)
  rw [h16] at h
  exact h
 have e8 : bits .and .u8 (v : Int) 8 = 0 := by
  have h := u8_and_nat v 8 hv (by decide)
  rw [h8] at h
  exact h
 have e7 : bits .and .u8 (v : Int) 7 = 2 := by
  have h := u8_and_nat v 7 hv (by decide)
  rw [h7] at h
  exact h
 have es : bits .andNot .u8 (c.served : Int) 4 = ((c.served &&& 251 : Nat) : Int) := u8_andNot_nat c.served 4 hok.served (by decide)
 go_enter Tryz.func101, Tryz.ntmps101
 go_wp2_with fail
 go_region
 go_wp2_with fail
 go_returns
 refine ⟨rfl, ?_, by (repeat' (first | (with_reducible exact Keeps.refl _ _) | (with_reducible exact hk) | (with_reducible refine Keeps.setOne ?_ _ _) | (with_reducible refine Keeps.alloc ?_ _) | (with_reducible refine Keeps.drew ?_) | (with_reducible refine Keeps.drewN ?_ _)))⟩
 unfold Pair Chip.cells at H ⊢
 simp only [List.cons_append, List.nil_append] at H ⊢
 (first | (simp only [heap_set_map, putObj_cells, H, Option.map_some, List.set_cons_succ, List.set_cons_zero, heap_drewN, heap_drew]; done) | (simp only [heap_set_map, putObj_cells, H, Option.map_some, List.set_cons_succ, List.set_cons_zero, heap_drewN, heap_drew]; rfl))

theorem o3_3_c (b k : Nat) (c d : Chip) (hok : c.ok) (v : Nat) (hv : v < 256) (h16 : v &&& 16 = 0) (h8 : v &&& 8 = 0) (h5 : v / 32 = 3) (h7 : v &&& 7 = 3) (w : World) (H : Pair w b c d) (kv : w.cell? ⟨k, 0, none⟩ = some (.int .u8 v)) (hkb : k ≠ b) :
    Calls Tryz.prog 101 #[.pointer (some ⟨b, 0, none⟩), .bool true, .pointer (some ⟨k, 0, none⟩)] w fun r w' => r = .returned (.tuple #[]) ∧ Pair w' b ({ c with served := c.served &&& 247 }) d ∧ Keeps (· = b) w w' := by
 obtain ⟨k0, k1, k2, k3, k4, k5, k6, k7, k8, k9, k10, k11, k12, k13, k14, k15, k16, k17, k18, k19, kf, klt⟩ := H.facts
 have e16 : bits .and .u8 (v : Int) 16 = 0 := by
  have h := u8_and_nat v 16 hv (by decide)
  rw [h16] at h
  exact h
 have e8 : bits .and .u8 (v : Int) 8 = 0 := by
  have h := u8_and_nat v 8 hv (by decide)
  rw [h8] at h
  exact h
 have e7 : bits .and .u8 (v : Int) 7 = 3 := by
  have h := u8_and_nat v 7 hv (by decide)
  rw [h7] at h
  exact h
 have es : bits .andNot .u8 (c.served : Int) 8 = ((c.served &&& 247 : Nat) : Int) := u8_andNot_nat c.served 8 hok.served (by decide)
 go_enter Tryz.func101, Tryz.ntmps101
 go_wp2_with fail
 go_region
 go_wp2_with fail
 go_returns
 refine ⟨rfl, ?_, by (repeat' (first | (with_reducible exact Keeps.refl _ _) | (with_reducible exact hk) | (with_reducible refine Keeps.setOne ?_ _ _) | (with_reducible refine Keeps.alloc ?_ _) | (with_reducible refine Keeps.drew ?_) | (with_reducible refine Keeps.drewN ?_ _)))⟩
 unfold Pair Chip.cells at H ⊢
 simp only [List.cons_append, List.nil_append] at H ⊢
 (first | (simp only [heap_set_map, putObj_cells, H, Option.map_some, List.set_cons_succ, List.set_cons_zero, heap_drewN, heap_drew]; done) | (simp only [heap_set_map, putObj_cells, H, Option.map_some, List.set_cons_succ, List.set_cons_zero, heap_drewN, heap_drew]; rfl))

theorem o3_4_c (b k : Nat) (c d : Chip) (hok : c.ok) (v : Nat) (hv : v < 256) (h16 : v &&& 16 = 0) (h8 : v &&& 8 = 0) (h5 : v / 32 = 3) (h7 : v &&& 7 = 4) (w : World) (H : Pair w b c d) (kv : w.cell? ⟨k, 0, none⟩ = some (.int .u8 v)) (hkb : k ≠ b) :
    Calls Tryz.prog 101 #[.pointer (some ⟨b, 0, none⟩), .bool true, .pointer (some ⟨k, 0, none⟩)] w fun r w' => r = .returned (.tuple #[]) ∧ Pair w' b ({ c with served := c.served &&& 239 }) d ∧ Keeps (· = b) w w' := by
 obtain ⟨k0, k1, k2, k3, k4, k5, k6, k7, k8, k9, k10, k11, k12, k13, k14, k15, k16, k17, k18, k19, kf, klt⟩ := H.facts
 have e16 : bits .and .u8 (v : Int) 16 = 0 := by
  have h := u8_and_nat v 16 hv (by decide)
  rw [h16] at h
  exact h
 have e8 : bits .and .u8 (v : Int) 8 = 0 := by
  have h := u8_and_nat v 8 hv (by decide)
  rw [h8] at h
  exact h
 have e7 : bits .and .u8 (v : Int) 7 = 4 := by
  have h := u8_and_nat v 7 hv (by decide)
  rw [h7] at h
  exact h
 have es : bits .andNot .u8 (c.served : Int) 16 = ((c.served &&& 239 : Nat) : Int) := u8_andNot_nat c.served 16 hok.served (by decide)
 go_enter Tryz.func101, Tryz.ntmps101
 go_wp2_with fail
 go_region
 go_wp2_with fail
 go_returns
 refine ⟨rfl, ?_, by (repeat' (first | (with_reducible exact Keeps.refl _ _) | (with_reducible exact hk) | (with_reducible refine Keeps.setOne ?_ _ _) | (with_reducible refine Keeps.alloc ?_ _) | (with_reducible refine Keeps.drew ?_) | (with_reducible refine Keeps.drewN ?_ _)))⟩
 unfold Pair Chip.cells at H ⊢
 simp only [List.cons_append, List.nil_append] at H ⊢
 (first | (simp only [heap_set_map, putObj_cells, H, Option.map_some, List.set_cons_succ, List.set_cons_zero, heap_drewN, heap_drew]; done) | (simp only [heap_set_map, putObj_cells, H, Option.map_some, List.set_cons_succ, List.set_cons_zero, heap_drewN, heap_drew]; rfl))

theorem o3_5_c (b k : Nat) (c d : Chip) (hok : c.ok) (v : Nat) (hv : v < 256) (h16 : v &&& 16 = 0) (h8 : v &&& 8 = 0) (h5 : v / 32 = 3) (h7 : v &&& 7 = 5) (w : World) (H : Pair w b c d) (kv : w.cell? ⟨k, 0, none⟩ = some (.int .u8 v)) (hkb : k ≠ b) :
    Calls Tryz.prog 101 #[.pointer (some ⟨b, 0, none⟩), .bool true, .pointer (some ⟨k, 0, none⟩)] w fun r w' => r = .returned (.tuple #[]) ∧ Pair w' b ({ c with served := c.served &&& 223 }) d ∧ Keeps (· = b) w w' := by
 obtain ⟨k0, k1, k2, k3, k4, k5, k6, k7, k8, k9, k10, k11, k12, k13, k14, k15, k16, k17, k18, k19, kf, klt⟩ := H.facts
 have e16 : bits .and .u8 (v : Int) 16 = 0 := by
  have h := u8_and_nat v 16 hv (by decide)
  rw [h16] at h
  exact h
 have e8 : bits .and .u8 (v : Int) 8 = 0 := by
  have h := u8_and_nat v 8 hv (by decide)
  rw [h8] at h
  exact h
 have e7 : bits .and .u8 (v : Int) 7 = 5 := by
  have h := u8_and_nat v 7 hv (by decide)
  rw [h7] at h
  exact h
 have es : bits .andNot .u8 (c.served : Int) 32 = ((c.served &&& 223 : Nat) : Int) := u8_andNot_nat c.served 32 hok.served (by decide)
 go_enter Tryz.func101, Tryz.ntmps101
 go_wp2_with fail
 go_region
 go_wp2_with fail
 go_returns
 refine ⟨rfl, ?_, by (repeat' (first | (with_reducible exact Keeps.refl _ _) | (with_reducible exact hk) | (with_reducible refine Keeps.setOne ?_ _ _) | (with_reducible refine Keeps.alloc ?_ _) | (with_reducible refine Keeps.drew ?_) | (with_reducible refine Keeps.drewN ?_ _)))⟩
 unfold Pair Chip.cells at H ⊢
 simp only [List.cons_append, List.nil_append] at H ⊢
 (first | (simp only [heap_set_map, putObj_cells, H, Option.map_some, List.set_cons_succ, List.set_cons_zero, heap_drewN, heap_drew]; done) | (simp only [heap_set_map, putObj_cells, H, Option.map_some, List.set_cons_succ, List.set_cons_zero, heap_drewN, heap_drew]; rfl))

theorem o3_6_c (b k : Nat) (c d : Chip) (hok : c.ok) (v : Nat) (hv : v < 256) (h16 : v &&& 16 = 0) (h8 : v &&& 8 = 0) (h5 : v / 32 = 3) (h7 : v &&& 7 = 6) (w : World) (H : Pair w b c d) (kv : w.cell? ⟨k, 0, none⟩ = some (.int .u8 v)) (hkb : k ≠ b) :
    Calls Tryz.prog 101 #[.pointer (some ⟨b, 0, none⟩), .bool true, .pointer (some ⟨k, 0, none⟩)] w fun r w' => r = .returned (.tuple #[]) ∧ Pair w' b ({ c with served := c.served &&& 191 }) d ∧ Keeps (· = b) w w' := by
 obtain ⟨k0, k1, k2, k3, k4, k5, k6, k7, k8, k9, k10, k11, k12, k13, k14, k15, k16, k17, k18, k19, kf, klt⟩ := H.facts
 have e16 : bits .and .u8 (v : Int) 16 = 0 := by
  have h := u8_and_nat v 16 hv (by decide)
  rw [h16] at h
  exact h
 have e8 : bits .and .u8 (v : Int) 8 = 0 := by
  have h := u8_and_nat v 8 hv (by decide)
  rw [h8] at h
  exact h
 have e7 : bits .and .u8 (v : Int) 7 = 6 := by
  have h := u8_and_nat v 7 hv (by decide)
  rw [h7] at h
  exact h
 have es : bits .andNot .u8 (c.served : Int) 64 = ((c.served &&& 191 : Nat) : Int) := u8_andNot_nat c.served 64 hok.served (by decide)
 go_enter Tryz.func101, Tryz.ntmps101
 go_wp2_with fail
 go_region
 go_wp2_with fail
 go_returns
 refine ⟨rfl, ?_, by (repeat' (first | (with_reducible exact Keeps.refl _ _) | (with_reducible exact hk) | (with_reducible refine Keeps.setOne ?_ _ _) | (with_reducible refine Keeps.alloc ?_ _) | (with_reducible refine Keeps.drew ?_) | (with_reducible refine Keeps.drewN ?_ _)))⟩
 unfold Pair Chip.cells at H ⊢
 simp only [List.cons_append, List.nil_append] at H ⊢
 (first | (simp only [heap_set_map, putObj_cells, H, Option.map_some, List.set_cons_succ, List.set_cons_zero, heap_drewN, heap_drew]; done) | (simp only [heap_set_map, putObj_cells, H, Option.map_some, List.set_cons_succ, List.set_cons_zero, heap_drewN, heap_drew]; rfl))

theorem o3_7_c (b k : Nat) (c d : Chip) (hok : c.ok) (v : Nat) (hv : v < 256) (h16 : v &&& 16 = 0) (h8 : v &&& 8 = 0) (h5 : v / 32 = 3) (h7 : v &&& 7 = 7) (w : World) (H : Pair w b c d) (kv : w.cell? ⟨k, 0, none⟩ = some (.int .u8 v)) (hkb : k ≠ b) :
    Calls Tryz.prog 101 #[.pointer (some ⟨b, 0, none⟩), .bool true, .pointer (some ⟨k, 0, none⟩)] w fun r w' => r = .returned (.tuple #[]) ∧ Pair w' b ({ c with served := c.served &&& 127 }) d ∧ Keeps (· = b) w w' := by
 obtain ⟨k0, k1, k2, k3, k4, k5, k6, k7, k8, k9, k10, k11, k12, k13, k14, k15, k16, k17, k18, k19, kf, klt⟩ := H.facts
 have e16 : bits .and .u8 (v : Int) 16 = 0 := by
  have h := u8_and_nat v 16 hv (by decide)
  rw [h16] at h
  exact h
 have e8 : bits .and .u8 (v : Int) 8 = 0 := by
  have h := u8_and_nat v 8 hv (by decide)
  rw [h8] at h
  exact h
 have e7 : bits .and .u8 (v : Int) 7 = 7 := by
  have h := u8_and_nat v 7 hv (by decide)
  rw [h7] at h
  exact h
 have es : bits .andNot .u8 (c.served : Int) 128 = ((c.served &&& 127 : Nat) : Int) := u8_andNot_nat c.served 128 hok.served (by decide)
 go_enter Tryz.func101, Tryz.ntmps101
 go_wp2_with fail
 go_region
 go_wp2_with fail
 go_returns
 refine ⟨rfl, ?_, by (repeat' (first | (with_reducible exact Keeps.refl _ _) | (with_reducible exact hk) | (with_reducible refine Keeps.setOne ?_ _ _) | (with_reducible refine Keeps.alloc ?_ _) | (with_reducible refine Keeps.drew ?_) | (with_reducible refine Keeps.drewN ?_ _)))⟩
 unfold Pair Chip.cells at H ⊢
 simp only [List.cons_append, List.nil_append] at H ⊢
 (first | (simp only [heap_set_map, putObj_cells, H, Option.map_some, List.set_cons_succ, List.set_cons_zero, heap_drewN, heap_drew]; done) | (simp only [heap_set_map, putObj_cells, H, Option.map_some, List.set_cons_succ, List.set_cons_zero, heap_drewN, heap_drew]; rfl))

theorem on_c (b k : Nat) (c d : Chip) (hok : c.ok) (v : Nat) (hv : v < 256) (h16 : v &&& 16 = 0) (h8 : v &&& 8 = 0) (h5 : v / 32 ≠ 1) (h6 : v / 32 ≠ 3) (w : World) (H : Pair w b c d) (kv : w.cell? ⟨k, 0, none⟩ = some (.int .u8 v)) (hkb : k ≠ b) :
    Calls Tryz.prog 101 #[.pointer (some ⟨b, 0, none⟩), .bool true, .pointer (some ⟨k, 0, none⟩)] w fun r w' => r = .returned (.tuple #[]) ∧ Pair w' b (c) d ∧ Keeps (· = b) w w' := by
 obtain ⟨k0, k1, k2, k3, k4, k5, k6, k7, k8, k9, k10, k11, k12, k13, k14, k15, k16, k17, k18, k19, kf, klt⟩ := H.facts
 have e16 : bits .and .u8 (v : Int) 16 = 0 := by
  have h := u8_and_nat v 16 hv (by decide)
  rw [h16] at h
  exact h
 have e8 : bits .and .u8 (v : Int) 8 = 0 := by
  have h := u8_and_nat v 8 hv (by decide)
  rw [h8] at h
  exact h
 go_enter Tryz.func101, Tryz.ntmps101
 go_wp2_with fail
 go_returns
 exact ⟨rfl, H, Keeps.refl _ _⟩

theorem d0_c (b k : Nat) (c d : Chip) (hok : c.ok) (v : Nat) (hv : v < 256) (h0 : c.stage = 0) (w : World) (H : Pair w b c d) (kv : w.cell? ⟨k, 0, none⟩ = some (.int .u8 v)) (hkb : k ≠ b) :
    Calls Tryz.prog 101 #[.pointer (some ⟨b, 0, none⟩), .bool false, .pointer (some ⟨k, 0, none⟩)] w fun r w' => r = .returned (.tuple #[]) ∧ Pair w' b ({ c with masked := v }) d ∧ Keeps (· = b) w w' := by
 obtain ⟨k0, k1, k2, k3, k4, k5, k6, k7, k8, k9, k10, k11, k12, k13, k14, k15, k16, k17, k18, k19, kf, klt⟩ := H.facts
 rw [h0] at k7
 replace k7 : w.cell? ⟨b, 7, none⟩ = some (.int .i64 0) := k7
 go_enter Tryz.func101, Tryz.ntmps101
 go_wp2_with fail
 go_returns
 refine ⟨rfl, ?_, by (repeat' (first | (with_reducible exact Keeps.refl _ _) | (with_reducible exact hk) | (with_reducible refine Keeps.setOne ?_ _ _) | (with_reducible refine Keeps.alloc ?_ _) | (with_reducible refine Keeps.drew ?_) | (with_reducible refine Keeps.drewN ?_ _)))⟩
 unfold Pair Chip.cells at H ⊢
 simp only [List.cons_append, List.nil_append] at H ⊢
 (first | (simp only [heap_set_map, putObj_cells, H, Option.map_some, List.set_cons_succ, List.set_cons_zero, heap_drewN, heap_drew]; done) | (simp only [heap_set_map, putObj_cells, H, Option.map_some, List.set_cons_succ, List.set_cons_zero, heap_drewN, heap_drew]; rfl))

theorem d1_c (b k : Nat) (c d : Chip) (hok : c.ok) (v : Nat) (hv : v < 256) (h0 : c.stage = 1)  (w : World) (H : Pair w b c d) (kv : w.cell? ⟨k, 0, none⟩ = some (.int .u8 v)) (hkb : k ≠ b) :
    Calls Tryz.prog 101 #[.pointer (some ⟨b, 0, none⟩), .bool false, .pointer (some ⟨k, 0, none⟩)] w fun r w' => r = .returned (.tuple #[]) ∧ Pair w' b (onC ({ c with base := v &&& 248 })) d ∧ Keeps (· = b) w w' := by
 obtain ⟨k0, k1, k2, k3, k4, k5, k6, k7, k8, k9, k10, k11, k12, k13, k14, k15, k16, k17, k18, k19, kf, klt⟩ := H.facts
 have hst : c.stage = 1 := h0
 rw [h0] at k7
 replace k7 : w.cell? ⟨b, 7, none⟩ = some (.int .i64 1) := k7
 have ea : bits .andNot .u8 (v : Int) 7 = ((v &&& 248 : Nat) : Int) := u8_andNot_nat v 7 hv (by decide)
 go_enter Tryz.func101, Tryz.ntmps101
 go_wp2_with fail
 have H1 : ∀ X, X = w.setCell ⟨b, 4, none⟩ (.int .u8 (v &&& 248 : Nat)) → Pair X b ({ c with base := v &&& 248 }) d := by
  rintro X rfl
  unfold Pair Chip.cells at H ⊢
  simp only [List.cons_append, List.nil_append] at H ⊢
  (first | (simp only [heap_set_map, putObj_cells, H, Option.map_some, List.set_cons_succ, List.set_cons_zero, heap_drewN, heap_drew]; done) | (simp only [heap_set_map, putObj_cells, H, Option.map_some, List.set_cons_succ, List.set_cons_zero, heap_drewN, heap_drew]; rfl))
 refine (onward_c b ({ c with base := v &&& 248 }) d (by show c.stage ≠ 0; rw [hst]; decide) (by show c.stage < 4; rw [hst]; decide) _ (H1 _ rfl)).mono ?_
 rintro r w1 ⟨rfl, H2, hk⟩
 go_wp2_with fail
 go_returns
 exact ⟨rfl, H2, Keeps.trans ((Keeps.refl _ _).setOne _ _) hk⟩

theorem d2_c (b k : Nat) (c d : Chip) (hok : c.ok) (v : Nat) (hv : v < 256) (h0 : c.stage = 2)  (w : World) (H : Pair w b c d) (kv : w.cell? ⟨k, 0, none⟩ = some (.int .u8 v)) (hkb : k ≠ b) :
    Calls Tryz.prog 101 #[.pointer (some ⟨b, 0, none⟩), .bool false, .pointer (some ⟨k, 0, none⟩)] w fun r w' => r = .returned (.tuple #[]) ∧ Pair w' b (onC (c)) d ∧ Keeps (· = b) w w' := by
 obtain ⟨k0, k1, k2, k3, k4, k5, k6, k7, k8, k9, k10, k11, k12, k13, k14, k15, k16, k17, k18, k19, kf, klt⟩ := H.facts
 have hst : c.stage = 2 := h0
 rw [h0] at k7
 replace k7 : w.cell? ⟨b, 7, none⟩ = some (.int .i64 2) := k7
 go_enter Tryz.func101, Tryz.ntmps101
 go_wp2_with fail
 refine (onward_c b (c) d (by show c.stage ≠ 0; rw [hst]; decide) (by show c.stage < 4; rw [hst]; decide) w H).mono ?_
 rintro r w1 ⟨rfl, H2, hk⟩
 go_wp2_with fail
 go_returns
 exact ⟨rfl, H2, hk⟩

theorem d3_0_c (b k : Nat) (c d : Chip) (hok : c.ok) (v : Nat) (hv : v < 256) (h0 : c.stage = 3) (h2 : v &&& 2 = 0) (w : World) (H : Pair w b c d) (kv : w.cell? ⟨k, 0, none⟩ = some (.int .u8 v)) (hkb : k ≠ b) :
    Calls Tryz.prog 101 #[.pointer (some ⟨b, 0, none⟩), .bool false, .pointer (some ⟨k, 0, none⟩)] w fun r w' => r = .returned (.tuple #[]) ∧ Pair w' b (onC ({ c with ends := false })) d ∧ Keeps (· = b) w w' := by
 obtain ⟨k0, k1, k2, k3, k4, k5, k6, k7, k8, k9, k10, k11, k12, k13, k14, k15, k16, k17, k18, k19, kf, klt⟩ := H.facts
 have hst : c.stage = 3 := h0
 rw [h0] at k7
 replace k7 : w.cell? ⟨b, 7, none⟩ = some (.int .i64 3) := k7
 have e2 : bits .and .u8 (v : Int) 2 = 0 := by
  have h := u8_and_nat v 2 hv (by decide)
  rw [h2] at h
  exact h
 go_enter Tryz.func101, Tryz.ntmps101
 go_wp2_with fail
 have H1 : ∀ X, X = w.setCell ⟨b, 6, none⟩ (.bool false) → Pair X b ({ c with ends := false }) d := by
  rintro X rfl
  unfold Pair Chip.cells at H ⊢
  simp only [List.cons_append, List.nil_append] at H ⊢
  (first | (simp only [heap_set_map, putObj_cells, H, Option.map_some, List.set_cons_succ, List.set_cons_zero, heap_drewN, heap_drew]; done) | (simp only [heap_set_map, putObj_cells, H, Option.map_some, List.set_cons_succ, List.set_cons_zero, heap_drewN, heap_drew]; rfl))
 refine (onward_c b ({ c with ends := false }) d (by show c.stage ≠ 0; rw [hst]; decide) (by show c.stage < 4; rw [hst]; decide) _ (H1 _ rfl)).mono ?_
 rintro r w1 ⟨rfl, H2, hk⟩
 go_wp2_with fail
 go_returns
 exact ⟨rfl, H2, Keeps.trans ((Keeps.refl _ _).setOne _ _) hk⟩

theorem d3_1_c (b k : Nat) (c d : Chip) (hok : c.ok) (v : Nat) (hv : v < 256) (h0 : c.stage = 3) (h2 : v &&& 2 = 2) (w : World) (H : Pair w b c d) (kv : w.cell? ⟨k, 0, none⟩ = some (.int .u8 v)) (hkb : k ≠ b) :
    Calls Tryz.prog 101 #[.pointer (some ⟨b, 0, none⟩), .bool false, .pointer (some ⟨k, 0, none⟩)] w fun r w' => r = .returned (.tuple #[]) ∧ Pair w' b (onC ({ c with ends := true })) d ∧ Keeps (· = b) w w' := by
 obtain ⟨k0, k1, k2, k3, k4, k5, k6, k7, k8, k9, k10, k11, k12, k13, k14, k15, k16, k17, k18, k19, kf, klt⟩ := H.facts
 have hst : c.stage = 3 := h0
 rw [h0] at k7
 replace k7 : w.cell? ⟨b, 7, none⟩ = some (.int .i64 3) := k7
 have e2 : bits .and .u8 (v : Int) 2 = 2 := by
  have h := u8_and_nat v 2 hv (by decide)
  rw [h2] at h
  exact h
 go_enter Tryz.func101, Tryz.ntmps101
 go_wp2_with fail
 have H1 : ∀ X, X = w.setCell ⟨b, 6, none⟩ (.bool true) → Pair X b ({ c with ends := true }) d := by
  rintro X rfl
  unfold Pair Chip.cells at H ⊢
  simp only [List.cons_append, List.nil_append] at H ⊢
  (first | (simp only [heap_set_map, putObj_cells, H, Option.map_some, List.set_cons_succ, List.set_cons_zero, heap_drewN, heap_drew]; done) | (simp only [heap_set_map, putObj_cells, H, Option.map_some, List.set_cons_succ, List.set_cons_zero, heap_drewN, heap_drew]; rfl))
 refine (onward_c b ({ c with ends := true }) d (by show c.stage ≠ 0; rw [hst]; decide) (by show c.stage < 4; rw [hst]; decide) _ (H1 _ rfl)).mono ?_
 rintro r w1 ⟨rfl, H2, hk⟩
 go_wp2_with fail
 go_returns
 exact ⟨rfl, H2, Keeps.trans ((Keeps.refl _ _).setOne _ _) hk⟩

theorem out1_c (b k : Nat) (c d : Chip) (hok : c.ok) (command : Bool) (v : Nat) (hv : v < 256) (w : World) (H : Pair w b c d) (kv : w.cell? ⟨k, 0, none⟩ = some (.int .u8 v)) (hkb : k ≠ b) :
    Calls Tryz.prog 101 #[.pointer (some ⟨b, 0, none⟩), .bool command, .pointer (some ⟨k, 0, none⟩)] w fun r w' => r = .returned (.tuple #[]) ∧ Pair w' b (outC c command v) d ∧ Keeps (· = b) w w' := by
 have a1 := and_bit v 1 (by decide) hv
 have a2 := and_bit v 2 (by decide) hv
 have a8 := and_bit v 8 (by decide) hv
 have a16 := and_bit v 16 (by decide) hv
 cases command
 ·by_cases h0 : c.stage = 0
  ·have E : outC c false v = { c with masked := v } := by unfold outC; rw [if_neg (by decide), if_pos h0]
   rw [E]
   exact d0_c b k c d hok v hv h0 w H kv hkb
  ·have h4 := hok.stage
   obtain h1 | h1 | h1 : c.stage = 1 ∨ c.stage = 2 ∨ c.stage = 3 := by omega
   ·have E : outC c false v = onC { c with base := v &&& 248 } := by unfold outC; rw [if_neg (by decide), if_neg h0, if_pos h1]
    rw [E]
    exact d1_c b k c d hok v hv h1 w H kv hkb
   ·have E : outC c false v = onC c := by unfold outC; rw [if_neg (by decide), if_neg h0, if_neg (by omega), if_neg (by omega)]
    rw [E]
    exact d2_c b k c d hok v hv h1 w H kv hkb
   ·rcases a2 with a2 | a2
    ·have E : outC c false v = onC { c with ends := false } := by unfold outC bit; rw [if_neg (by decide), if_neg h0, if_neg (by omega), if_pos h1, a2]; rfl
     rw [E]
     exact d3_0_c b k c d hok v hv h1 a2 w H kv hkb
    ·have E : outC c false v = onC { c with ends := true } := by unfold outC bit; rw [if_neg (by decide), if_neg h0, if_neg (by omega), if_pos h1, a2]; rfl
     rw [E]
     exact d3_1_c b k c d hok v hv h1 a2 w H kv hkb
 ·rcases a16 with a16 | a16
  ·have b16 : bit v 16 = false := by unfold bit; rw [a16]; rfl
   rcases a8 with a8 | a8
   ·have b8 : bit v 8 = false := by unfold bit; rw [a8]; rfl
    by_cases h1 : v / 32 = 1
    ·have E : outC c true v = { c with served := c.served &&& ((c.served + 255) % 256) } := by unfold outC; rw [if_pos rfl, b16, b8, if_neg (by decide), if_neg (by decide), if_pos h1]
     rw [E]
     by_cases hz : c.served = 0
     ·have E2 : c.served &&& ((c.served + 255) % 256) = 0 := by rw [hz]; rfl
      rw [E2]
      exact o1z_c b k c d hok v hv a16 a8 h1 hz w H kv hkb
     ·exact o1_c b k c d hok v hv a16 a8 h1 (by omega) w H kv hkb
    ·by_cases h3 : v / 32 = 3
     ·have key : ∀ i, v &&& 7 = i → i < 8 → Calls Tryz.prog 101 #[.pointer (some ⟨b, 0, none⟩), .bool true, .pointer (some ⟨k, 0, none⟩)] w fun r w' => r = .returned (.tuple #[]) ∧ Pair w' b { c with served := c.served &&& (255 - 2 ^ i) } d ∧ Keeps (· = b) w w' := by
        intro i h7 hi
        obtain rfl | rfl | rfl | rfl | rfl | rfl | rfl | rfl : i = 0 ∨ i = 1 ∨ i = 2 ∨ i = 3 ∨ i = 4 ∨ i = 5 ∨ i = 6 ∨ i = 7 := by omega
        ·exact o3_0_c b k c d hok v hv a16 a8 h3 h7 w H kv hkb
        ·exact o3_1_c b k c d hok v hv a16 a8 h3 h7 w H kv hkb
        ·exact o3_2_c b k c d hok v hv a16 a8 h3 h7 w H kv hkb
        ·exact o3_3_c b k c d hok v hv a16 a8 h3 h7 w H kv hkb
        ·exact o3_4_c b k c d hok v hv a16 a8 h3 h7 w H kv hkb
        ·exact o3_5_c b k c d hok v hv a16 a8 h3 h7 w H kv hkb
        ·exact o3_6_c b k c d hok v hv a16 a8 h3 h7 w H kv hkb
        ·exact o3_7_c b k c d hok v hv a16 a8 h3 h7 w H kv hkb
      have E : outC c true v = { c with served := c.served &&& (255 - 2 ^ (v &&& 7)) } := by unfold outC; rw [if_pos rfl, b16, b8, if_neg (by decide), if_neg (by decide), if_neg h1, if_pos h3]
      rw [E]
      exact key _ rfl (Nat.lt_of_le_of_lt Nat.and_le_right (by decide))
     ·have E : outC c true v = c := by unfold outC; rw [if_pos rfl, b16, b8, if_neg (by decide), if_neg (by decide), if_neg h1, if_neg h3]
      rw [E]
      exact on_c b k c d hok v hv a16 a8 h1 h3 w H kv hkb
   ·have b8 : bit v 8 = true := by unfold bit; rw [a8]; rfl
    rcases a2 with a2 | a2
    ·have E : outC c true v = c := by unfold outC; rw [if_pos rfl, b16, b8, if_neg (by decide), if_pos rfl]; unfold bit; rw [a2]; rfl
     rw [E]
     exact o8_n_c b k c d hok v hv a16 a8 a2 w H kv hkb
    ·rcases a1 with a1 | a1
     ·have E : outC c true v = { c with told := false } := by unfold outC; rw [if_pos rfl, b16, b8, if_neg (by decide), if_pos rfl]; unfold bit; rw [a2, a1]; rfl
      rw [E]
      exact o8_0_c b k c d hok v hv a16 a8 a2 a1 w H kv hkb
     ·have E : outC c true v = { c with told := true } := by unfold outC; rw [if_pos rfl, b16, b8, if_neg (by decide), if_pos rfl]; unfold bit; rw [a2, a1]; rfl
      rw [E]
      exact o8_1_c b k c d hok v hv a16 a8 a2 a1 w H kv hkb
  ·have b16 : bit v 16 = true := by unfold bit; rw [a16]; rfl
   have E : outC c true v = Chip.mk 0 0 0 c.up c.base false false 1 (!bit v 2) (bit v 1) := by unfold outC; rw [if_pos rfl, b16, if_pos rfl]
   rw [E]
   unfold bit
   rcases a2 with a2 | a2
   ·rcases a1 with a1 | a1
    ·rw [a2, a1]
     exact o16_00_c b k c d hok v hv a16 a2 a1 w H kv hkb
    ·rw [a2, a1]
     exact o16_01_c b k c d hok v hv a16 a2 a1 w H kv hkb
   ·rcases a1 with a1 | a1
    ·rw [a2, a1]
     exact o16_10_c b k c d hok v hv a16 a2 a1 w H kv hkb
    ·rw [a2, a1]
     exact o16_11_c b k c d hok v hv a16 a2 a1 w H kv hkb
end Go.Proofs.YtojmpdddfnkffaaGreat.Pic

