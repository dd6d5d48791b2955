/- pic: Line; take; Ack. -/
import Derived.Test.YtfijohgbgadhiaaPicA
namespace Go.Proofs.Ytfijohgbgadhiaa
open Go.RowKit
set_option linter.unusedVariables false

theorem heap_drewN (w : World) (n : Nat) : (w.drewN n).heap = w.heap := rfl

/-- Lines that ask behind one that goes up. -/
def askUp (a u m : Nat) : Nat := a ||| (m &&& (255 - u))
/-- A chip behind a line that goes up, or is down. -/
def lineC (c : Chip) (k : Nat) (up : Bool) : Chip :=
  if up then { c with asks := askUp c.asks c.up (2 ^ k), up := c.up ||| 2 ^ k } else { c with asks := c.asks &&& (255 - 2 ^ k), up := c.up &&& (255 - 2 ^ k) }
def servedC (c : Chip) (i : Nat) : Nat := if c.ends then c.served else c.served ||| 2 ^ i
/-- A chip behind a line that was told. -/
def takeC (c : Chip) (i : Nat) : Chip := { c with asks := c.asks &&& (255 - 2 ^ i), served := servedC c i }

set_option maxHeartbeats 1000000 in
theorem line_0 (b : Nat) (c d : Chip) (hc : c.ok) (hd : d.ok) (up : Bool) (w : World) (H : Pair w b c d) :
    Calls Try.prog 11 #[.pointer (some ⟨b, 0, none⟩), .int .i64 0, .bool up] w fun e w' => e = .returned (.int .i64 0) ∧ Pair w' b (lineC c 0 up) d ∧ Keeps (· = b) w w' := by
  obtain ⟨k0, k1, k2, k3, k4, k5, k6, k7, k8, k9, k10, k11, k12, k13, k14, k15, k16, k17, k18, k19, kf, klt⟩ := H.facts
  have ha := hc.asks
  have hu := hc.up
  have e1 : bits .andNot .u8 (c.asks : Int) 1 = ((c.asks &&& 254 : Nat) : Int) := u8_andNot_nat c.asks 1 ha (by decide)
  have e2 : bits .andNot .u8 (c.up : Int) 1 = ((c.up &&& 254 : Nat) : Int) := u8_andNot_nat c.up 1 hu (by decide)
  have e3 : bits .andNot .u8 1 (c.up : Int) = ((1 &&& (255 - c.up) : Nat) : Int) := u8_andNot_nat 1 c.up (by decide) hu
  have e4 : bits .or .u8 (c.asks : Int) ((1 &&& (255 - c.up) : Nat) : Int) = ((askUp c.asks c.up 1 : Nat) : Int) := u8_or_nat c.asks _ ha (Nat.lt_of_le_of_lt Nat.and_le_left (by decide))
  have e5 : bits .or .u8 (c.up : Int) 1 = ((c.up ||| 1 : Nat) : Int) := u8_or_nat c.up 1 hu (by decide)
  have e6 : (1 &&& (255 - c.up)) = (255 - c.up) % 2 := Nat.one_and_eq_mod_two _
  rw [e6] at e3 e4
  clear e6
  have e7 : (((255 - c.up) % 2 : Nat) : Int) = ((255 - c.up : Nat) : Int) % 2 := Int.natCast_emod _ _
  rw [e7] at e4
  clear e7
  clear hc hd
  cases up
  all_goals
    go_enter Try.func11, Try.ntmps11
    go_wp2_with fail
    go_quiet (fail)
    go_wp2_with fail
    try go_region
    all_goals
      go_wp2_with fail
      go_ret
      exact ⟨rfl, by (unfold Pair Chip.cells at H ⊢; simp only [List.cons_append, List.nil_append] at H ⊢; simp only [heap_set_map, putObj_cells, H, Option.map_some, List.set_cons_succ, List.set_cons_zero, heap_drewN]; rfl), by (repeat' (first | (with_reducible exact Keeps.refl _ _) | (with_reducible assumption) | (with_reducible refine Keeps.setOne ?_ _ _) | (with_reducible refine Keeps.alloc ?_ _) | (with_reducible refine Keeps.drew ?_) | (with_reducible refine Keeps.drewN ?_ _)))⟩

set_option maxHeartbeats 1000000 in
theorem line_1 (b : Nat) (c d : Chip) (hc : c.ok) (hd : d.ok) (up : Bool) (w : World) (H : Pair w b c d) :
    Calls Try.prog 11 #[.pointer (some ⟨b, 0, none⟩), .int .i64 1, .bool up] w fun e w' => e = .returned (.int .i64 0) ∧ Pair w' b (lineC c 1 up) d ∧ Keeps (· = b) w w' := by
  obtain ⟨k0, k1, k2, k3, k4, k5, k6, k7, k8, k9, k10, k11, k12, k13, k14, k15, k16, k17, k18, k19, kf, klt⟩ := H.facts
  have ha := hc.asks
  have hu := hc.up
  have e1 : bits .andNot .u8 (c.asks : Int) 2 = ((c.asks &&& 253 : Nat) : Int) := u8_andNot_nat c.asks 2 ha (by decide)
  have e2 : bits .andNot .u8 (c.up : Int) 2 = ((c.up &&& 253 : Nat) : Int) := u8_andNot_nat c.up 2 hu (by decide)
  have e3 : bits .andNot .u8 2 (c.up : Int) = ((2 &&& (255 - c.up) : Nat) : Int) := u8_andNot_nat 2 c.up (by decide) hu
  have e4 : bits .or .u8 (c.asks : Int) ((2 &&& (255 - c.up) : Nat) : Int) = ((askUp c.asks c.up 2 : Nat) : Int) := u8_or_nat c.asks _ ha (Nat.lt_of_le_of_lt Nat.and_le_left (by decide))
  have e5 : bits .or .u8 (c.up : Int) 2 = ((c.up ||| 2 : Nat) : Int) := u8_or_nat c.up 2 hu (by decide)
  clear hc hd
  cases up
  all_goals
    go_enter Try.func11, Try.ntmps11
    go_wp2_with fail
    go_quiet (fail)
    go_wp2_with fail
    try go_region
    all_goals
      go_wp2_with fail
      go_ret
      exact ⟨rfl, by (unfold Pair Chip.cells at H ⊢; simp only [List.cons_append, List.nil_append] at H ⊢; simp only [heap_set_map, putObj_cells, H, Option.map_some, List.set_cons_succ, List.set_cons_zero, heap_drewN]; rfl), by (repeat' (first | (with_reducible exact Keeps.refl _ _) | (with_reducible assumption) | (with_reducible refine Keeps.setOne ?_ _ _) | (with_reducible refine Keeps.alloc ?_ _) | (with_reducible refine Keeps.drew ?_) | (with_reducible refine Keeps.drewN ?_ _)))⟩

set_option maxHeartbeats 1000000 in
theorem line_3 (b : Nat) (c d : Chip) (hc : c.ok) (hd : d.ok) (up : Bool) (w : World) (H : Pair w b c d) :
    Calls Try.prog 11 #[.pointer (some ⟨b, 0, none⟩), .int .i64 3, .bool up] w fun e w' => e = .returned (.int .i64 0) ∧ Pair w' b (lineC c 3 up) d ∧ Keeps (· = b) w w' := by
  obtain ⟨k0, k1, k2, k3, k4, k5, k6, k7, k8, k9, k10, k11, k12, k13, k14, k15, k16, k17, k18, k19, kf, klt⟩ := H.facts
  have ha := hc.asks
  have hu := hc.up
  have e1 : bits .andNot .u8 (c.asks : Int) 8 = ((c.asks &&& 247 : Nat) : Int) := u8_andNot_nat c.asks 8 ha (by decide)
  have e2 : bits .andNot .u8 (c.up : Int) 8 = ((c.up &&& 247 : Nat) : Int) := u8_andNot_nat c.up 8 hu (by decide)
  have e3 : bits .andNot .u8 8 (c.up : Int) = ((8 &&& (255 - c.up) : Nat) : Int) := u8_andNot_nat 8 c.up (by decide) hu
  have e4 : bits .or .u8 (c.asks : Int) ((8 &&& (255 - c.up) : Nat) : Int) = ((askUp c.asks c.up 8 : Nat) : Int) := u8_or_nat c.asks _ ha (Nat.lt_of_le_of_lt Nat.and_le_left (by decide))
  have e5 : bits .or .u8 (c.up : Int) 8 = ((c.up ||| 8 : Nat) : Int) := u8_or_nat c.up 8 hu (by decide)
  clear hc hd
  cases up
  all_goals
    go_enter Try.func11, Try.ntmps11
    go_wp2_with fail
    go_quiet (fail)
    go_wp2_with fail
    try go_region
    all_goals
      go_wp2_with fail
      go_ret
      exact ⟨rfl, by (unfold Pair Chip.cells at H ⊢; simp only [List.cons_append, List.nil_append] at H ⊢; simp only [heap_set_map, putObj_cells, H, Option.map_some, List.set_cons_succ, List.set_cons_zero, heap_drewN]; rfl), by (repeat' (first | (with_reducible exact Keeps.refl _ _) | (with_reducible assumption) | (with_reducible refine Keeps.setOne ?_ _ _) | (with_reducible refine Keeps.alloc ?_ _) | (with_reducible refine Keeps.drew ?_) | (with_reducible refine Keeps.drewN ?_ _)))⟩

set_option maxHeartbeats 1000000 in
theorem line_4 (b : Nat) (c d : Chip) (hc : c.ok) (hd : d.ok) (up : Bool) (w : World) (H : Pair w b c d) :
    Calls Try.prog 11 #[.pointer (some ⟨b, 0, none⟩), .int .i64 4, .bool up] w fun e w' => e = .returned (.int .i64 0) ∧ Pair w' b (lineC c 4 up) d ∧ Keeps (· = b) w w' := by
  obtain ⟨k0, k1, k2, k3, k4, k5, k6, k7, k8, k9, k10, k11, k12, k13, k14, k15, k16, k17, k18, k19, kf, klt⟩ := H.facts
  have ha := hc.asks
  have hu := hc.up
  have e1 : bits .andNot .u8 (c.asks : Int) 16 = ((c.asks &&& 239 : Nat) : Int) := u8_andNot_nat c.asks 16 ha (by decide)
  have e2 : bits .andNot .u8 (c.up : Int) 16 = ((c.up &&& 239 : Nat) : Int) := u8_andNot_nat c.up 16 hu (by decide)
  have e3 : bits .andNot .u8 16 (c.up : Int) = ((16 &&& (255 - c.up) : Nat) : Int) := u8_andNot_nat 16 c.up (by decide) hu
  have e4 : bits .or .u8 (c.asks : Int) ((16 &&& (255 - c.up) : Nat) : Int) = ((askUp c.asks c.up 16 : Nat) : Int) := u8_or_nat c.asks _ ha (Nat.lt_of_le_of_lt Nat.and_le_left (by decide))
  have e5 : bits .or .u8 (c.up : Int) 16 = ((c.up ||| 16 : Nat) : Int) := u8_or_nat c.up 16 hu (by decide)
  clear hc hd
  cases up
  all_goals
    go_enter Try.func11, Try.ntmps11
    go_wp2_with fail
    go_quiet (fail)
    go_wp2_with fail
    try go_region
    all_goals
      go_wp2_with fail
      go_ret
      exact ⟨rfl, by (unfold Pair Chip.cells at H ⊢; simp only [List.cons_append, List.nil_append] at H ⊢; simp only [heap_set_map, putObj_cells, H, Option.map_some, List.set_cons_succ, List.set_cons_zero, heap_drewN]; rfl), by (repeat' (first | (with_reducible exact Keeps.refl _ _) | (with_reducible assumption) | (with_reducible refine Keeps.setOne ?_ _ _) | (with_reducible refine Keeps.alloc ?_ _) | (with_reducible refine Keeps.drew ?_) | (with_reducible refine Keeps.drewN ?_ _)))⟩

set_option maxHeartbeats 1000000 in
theorem line_5 (b : Nat) (c d : Chip) (hc : c.ok) (hd : d.ok) (up : Bool) (w : World) (H : Pair w b c d) :
    Calls Try.prog 11 #[.pointer (some ⟨b, 0, none⟩), .int .i64 5, .bool up] w fun e w' => e = .returned (.int .i64 0) ∧ Pair w' b (lineC c 5 up) d ∧ Keeps (· = b) w w' := by
  obtain ⟨k0, k1, k2, k3, k4, k5, k6, k7, k8, k9, k10, k11, k12, k13, k14, k15, k16, k17, k18, k19, kf, klt⟩ := H.facts
  have ha := hc.asks
  have hu := hc.up
  have e1 : bits .andNot .u8 (c.asks : Int) 32 = ((c.asks &&& 223 : Nat) : Int) := u8_andNot_nat c.asks 32 ha (by decide)
  have e2 : bits .andNot .u8 (c.up : Int) 32 = ((c.up &&& 223 : Nat) : Int) := u8_andNot_nat c.up 32 hu (by decide)
  have e3 : bits .andNot .u8 32 (c.up : Int) = ((32 &&& (255 - c.up) : Nat) : Int) := u8_andNot_nat 32 c.up (by decide) hu
  have e4 : bits .or .u8 (c.asks : Int) ((32 &&& (255 - c.up) : Nat) : Int) = ((askUp c.asks c.up 32 : Nat) : Int) := u8_or_nat c.asks _ ha (Nat.lt_of_le_of_lt Nat.and_le_left (by decide))
  have e5 : bits .or .u8 (c.up : Int) 32 = ((c.up ||| 32 : Nat) : Int) := u8_or_nat c.up 32 hu (by decide)
  clear hc hd
  cases up
  all_goals
    go_enter Try.func11, Try.ntmps11
    go_wp2_with fail
    go_quiet (fail)
    go_wp2_with fail
    try go_region
    all_goals
      go_wp2_with fail
      go_ret
      exact ⟨rfl, by (unfold Pair Chip.cells at H ⊢; simp only [List.cons_append, List.nil_append] at H ⊢; simp only [heap_set_map, putObj_cells, H, Option.map_some, List.set_cons_succ, List.set_cons_zero, heap_drewN]; rfl), by (repeat' (first | (with_reducible exact Keeps.refl _ _) | (with_reducible assumption) | (with_reducible refine Keeps.setOne ?_ _ _) | (with_reducible refine Keeps.alloc ?_ _) | (with_reducible refine Keeps.drew ?_) | (with_reducible refine Keeps.drewN ?_ _)))⟩

set_option maxHeartbeats 1000000 in
theorem line_6 (b : Nat) (c d : Chip) (hc : c.ok) (hd : d.ok) (up : Bool) (w : World) (H : Pair w b c d) :
    Calls Try.prog 11 #[.pointer (some ⟨b, 0, none⟩), .int .i64 6, .bool up] w fun e w' => e = .returned (.int .i64 0) ∧ Pair w' b (lineC c 6 up) d ∧ Keeps (· = b) w w' := by
  obtain ⟨k0, k1, k2, k3, k4, k5, k6, k7, k8, k9, k10, k11, k12, k13, k14, k15, k16, k17, k18, k19, kf, klt⟩ := H.facts
  have ha := hc.asks
  have hu := hc.up
  have e1 : bits .andNot .u8 (c.asks : Int) 64 = ((c.asks &&& 191 : Nat) : Int) := u8_andNot_nat c.asks 64 ha (by decide)
  have e2 : bits .andNot .u8 (c.up : Int) 64 = ((c.up &&& 191 : Nat) : Int) := u8_andNot_nat c.up 64 hu (by decide)
  have e3 : bits .andNot .u8 64 (c.up : Int) = ((64 &&& (255 - c.up) : Nat) : Int) := u8_andNot_nat 64 c.up (by decide) hu
  have e4 : bits .or .u8 (c.asks : Int) ((64 &&& (255 - c.up) : Nat) : Int) = ((askUp c.asks c.up 64 : Nat) : Int) := u8_or_nat c.asks _ ha (Nat.lt_of_le_of_lt Nat.and_le_left (by decide))
  have e5 : bits .or .u8 (c.up : Int) 64 = ((c.up ||| 64 : Nat) : Int) := u8_or_nat c.up 64 hu (by decide)
  clear hc hd
  cases up
  all_goals
    go_enter Try.func11, Try.ntmps11
    go_wp2_with fail
    go_quiet (fail)
    go_wp2_with fail
    try go_region
    all_goals
      go_wp2_with fail
      go_ret
      exact ⟨rfl, by (unfold Pair Chip.cells at H ⊢; simp only [List.cons_append, List.nil_append] at H ⊢; simp only [heap_set_map, putObj_cells, H, Option.map_some, List.set_cons_succ, List.set_cons_zero, heap_drewN]; rfl), by (repeat' (first | (with_reducible exact Keeps.refl _ _) | (with_reducible assumption) | (with_reducible refine Keeps.setOne ?_ _ _) | (with_reducible refine Keeps.alloc ?_ _) | (with_reducible refine Keeps.drew ?_) | (with_reducible refine Keeps.drewN ?_ _)))⟩

set_option maxHeartbeats 1000000 in
theorem line_7 (b : Nat) (c d : Chip) (hc : c.ok) (hd : d.ok) (up : Bool) (w : World) (H : Pair w b c d) :
    Calls Try.prog 11 #[.pointer (some ⟨b, 0, none⟩), .int .i64 7, .bool up] w fun e w' => e = .returned (.int .i64 0) ∧ Pair w' b (lineC c 7 up) d ∧ Keeps (· = b) w w' := by
  obtain ⟨k0, k1, k2, k3, k4, k5, k6, k7, k8, k9, k10, k11, k12, k13, k14, k15, k16, k17, k18, k19, kf, klt⟩ := H.facts
  have ha := hc.asks
  have hu := hc.up
  have e1 : bits .andNot .u8 (c.asks : Int) 128 = ((c.asks &&& 127 : Nat) : Int) := u8_andNot_nat c.asks 128 ha (by decide)
  have e2 : bits .andNot .u8 (c.up : Int) 128 = ((c.up &&& 127 : Nat) : Int) := u8_andNot_nat c.up 128 hu (by decide)
  have e3 : bits .andNot .u8 128 (c.up : Int) = ((128 &&& (255 - c.up) : Nat) : Int) := u8_andNot_nat 128 c.up (by decide) hu
  have e4 : bits .or .u8 (c.asks : Int) ((128 &&& (255 - c.up) : Nat) : Int) = ((askUp c.asks c.up 128 : Nat) : Int) := u8_or_nat c.asks _ ha (Nat.lt_of_le_of_lt Nat.and_le_left (by decide))
  have e5 : bits .or .u8 (c.up : Int) 128 = ((c.up ||| 128 : Nat) : Int) := u8_or_nat c.up 128 hu (by decide)
  clear hc hd
  cases up
  all_goals
    go_enter Try.func11, Try.ntmps11
    go_wp2_with fail
    go_quiet (fail)
    go_wp2_with fail
    try go_region
    all_goals
      go_wp2_with fail
      go_ret
      exact ⟨rfl, by (unfold Pair Chip.cells at H ⊢; simp only [List.cons_append, List.nil_append] at H ⊢; simp only [heap_set_map, putObj_cells, H, Option.map_some, List.set_cons_succ, List.set_cons_zero, heap_drewN]; rfl), by (repeat' (first | (with_reducible exact Keeps.refl _ _) | (with_reducible assumption) | (with_reducible refine Keeps.setOne ?_ _ _) | (with_reducible refine Keeps.alloc ?_ _) | (with_reducible refine Keeps.drew ?_) | (with_reducible refine Keeps.drewN ?_ _)))⟩

set_option maxHeartbeats 1000000 in
theorem line_8 (b : Nat) (c d : Chip) (hc : c.ok) (hd : d.ok) (up : Bool) (w : World) (H : Pair w b c d) :
    Calls Try.prog 11 #[.pointer (some ⟨b, 0, none⟩), .int .i64 8, .bool up] w fun e w' => e = .returned (.int .i64 0) ∧ Pair w' b c (lineC d 0 up) ∧ Keeps (· = b) w w' := by
  obtain ⟨k0, k1, k2, k3, k4, k5, k6, k7, k8, k9, k10, k11, k12, k13, k14, k15, k16, k17, k18, k19, kf, klt⟩ := H.facts
  have ha := hd.asks
  have hu := hd.up
  have e1 : bits .andNot .u8 (d.asks : Int) 1 = ((d.asks &&& 254 : Nat) : Int) := u8_andNot_nat d.asks 1 ha (by decide)
  have e2 : bits .andNot .u8 (d.up : Int) 1 = ((d.up &&& 254 : Nat) : Int) := u8_andNot_nat d.up 1 hu (by decide)
  have e3 : bits .andNot .u8 1 (d.up : Int) = ((1 &&& (255 - d.up) : Nat) : Int) := u8_andNot_nat 1 d.up (by decide) hu
  have e4 : bits .or .u8 (d.asks : Int) ((1 &&& (255 - d.up) : Nat) : Int) = ((askUp d.asks d.up 1 : Nat) : Int) := u8_or_nat d.asks _ ha (Nat.lt_of_le_of_lt Nat.and_le_left (by decide))
  have e5 : bits .or .u8 (d.up : Int) 1 = ((d.up ||| 1 : Nat) : Int) := u8_or_nat d.up 1 hu (by decide)
  have e6 : (1 &&& (255 - d.up)) = (255 - d.up) % 2 := Nat.one_and_eq_mod_two _
  rw [e6] at e3 e4
  clear e6
  have e7 : (((255 - d.up) % 2 : Nat) : Int) = ((255 - d.up : Nat) : Int) % 2 := Int.natCast_emod _ _
  rw [e7] at e4
  clear e7
  clear hc hd
  cases up
  all_goals
    go_enter Try.func11, Try.ntmps11
    go_wp2_with fail
    go_quiet (fail)
    go_wp2_with fail
    try go_region
    all_goals
      go_wp2_with fail
      go_ret
      exact ⟨rfl, by (unfold Pair Chip.cells at H ⊢; simp only [List.cons_append, List.nil_append] at H ⊢; simp only [heap_set_map, putObj_cells, H, Option.map_some, List.set_cons_succ, List.set_cons_zero, heap_drewN]; rfl), by (repeat' (first | (with_reducible exact Keeps.refl _ _) | (with_reducible assumption) | (with_reducible refine Keeps.setOne ?_ _ _) | (with_reducible refine Keeps.alloc ?_ _) | (with_reducible refine Keeps.drew ?_) | (with_reducible refine Keeps.drewN ?_ _)))⟩

set_option maxHeartbeats 1000000 in
theorem line_9 (b : Nat) (c d : Chip) (hc : c.ok) (hd : d.ok) (up : Bool) (w : World) (H : Pair w b c d) :
    Calls Try.prog 11 #[.pointer (some ⟨b, 0, none⟩), .int .i64 9, .bool up] w fun e w' => e = .returned (.int .i64 0) ∧ Pair w' b c (lineC d 1 up) ∧ Keeps (· = b) w w' := by
  obtain ⟨k0, k1, k2, k3, k4, k5, k6, k7, k8, k9, k10, k11, k12, k13, k14, k15, k16, k17, k18, k19, kf, klt⟩ := H.facts
  have ha := hd.asks
  have hu := hd.up
  have e1 : bits .andNot .u8 (d.asks : Int) 2 = ((d.asks &&& 253 : Nat) : Int) := u8_andNot_nat d.asks 2 ha (by decide)
  have e2 : bits .andNot .u8 (d.up : Int) 2 = ((d.up &&& 253 : Nat) : Int) := u8_andNot_nat d.up 2 hu (by decide)
  have e3 : bits .andNot .u8 2 (d.up : Int) = ((2 &&& (255 - d.up) : Nat) : Int) := u8_andNot_nat 2 d.up (by decide) hu
  have e4 : bits .or .u8 (d.asks : Int) ((2 &&& (255 - d.up) : Nat) : Int) = ((askUp d.asks d.up 2 : Nat) : Int) := u8_or_nat d.asks _ ha (Nat.lt_of_le_of_lt Nat.and_le_left (by decide))
  have e5 : bits .or .u8 (d.up : Int) 2 = ((d.up ||| 2 : Nat) : Int) := u8_or_nat d.up 2 hu (by decide)
  clear hc hd
  cases up
  all_goals
    go_enter Try.func11, Try.ntmps11
    go_wp2_with fail
    go_quiet (fail)
    go_wp2_with fail
    try go_region
    all_goals
      go_wp2_with fail
      go_ret
      exact ⟨rfl, by (unfold Pair Chip.cells at H ⊢; simp only [List.cons_append, List.nil_append] at H ⊢; simp only [heap_set_map, putObj_cells, H, Option.map_some, List.set_cons_succ, List.set_cons_zero, heap_drewN]; rfl), by (repeat' (first | (with_reducible exact Keeps.refl _ _) | (with_reducible assumption) | (with_reducible refine Keeps.setOne ?_ _ _) | (with_reducible refine Keeps.alloc ?_ _) | (with_reducible refine Keeps.drew ?_) | (with_reducible refine Keeps.drewN ?_ _)))⟩

set_option maxHeartbeats 1000000 in
theorem line_10 (b : Nat) (c d : Chip) (hc : c.ok) (hd : d.ok) (up : Bool) (w : World) (H : Pair w b c d) :
    Calls Try.prog 11 #[.pointer (some ⟨b, 0, none⟩), .int .i64 10, .bool up] w fun e w' => e = .returned (.int .i64 0) ∧ Pair w' b c (lineC d 2 up) ∧ Keeps (· = b) w w' := by
  obtain ⟨k0, k1, k2, k3, k4, k5, k6, k7, k8, k9, k10, k11, k12, k13, k14, k15, k16, k17, k18, k19, kf, klt⟩ := H.facts
  have ha := hd.asks
  have hu := hd.up
  have e1 : bits .andNot .u8 (d.asks : Int) 4 = ((d.asks &&& 251 : Nat) : Int) := u8_andNot_nat d.asks 4 ha (by decide)
  have e2 : bits .andNot .u8 (d.up : Int) 4 = ((d.up &&& 251 : Nat) : Int) := u8_andNot_nat d.up 4 hu (by decide)
  have e3 : bits .andNot .u8 4 (d.up : Int) = ((4 &&& (255 - d.up) : Nat) : Int) := u8_andNot_nat 4 d.up (by decide) hu
  have e4 : bits .or .u8 (d.asks : Int) ((4 &&& (255 - d.up) : Nat) : Int) = ((askUp d.asks d.up 4 : Nat) : Int) := u8_or_nat d.asks _ ha (Nat.lt_of_le_of_lt Nat.and_le_left (by decide))
  have e5 : bits .or .u8 (d.up : Int) 4 = ((d.up ||| 4 : Nat) : Int) := u8_or_nat d.up 4 hu (by decide)
  clear hc hd
  cases up
  all_goals
    go_enter Try.func11, Try.ntmps11
    go_wp2_with fail
    go_quiet (fail)
    go_wp2_with fail
    try go_region
    all_goals
      go_wp2_with fail
      go_ret
      exact ⟨rfl, by (unfold Pair Chip.cells at H ⊢; simp only [List.cons_append, List.nil_append] at H ⊢; simp only [heap_set_map, putObj_cells, H, Option.map_some, List.set_cons_succ, List.set_cons_zero, heap_drewN]; rfl), by (repeat' (first | (with_reducible exact Keeps.refl _ _) | (with_reducible assumption) | (with_reducible refine Keeps.setOne ?_ _ _) | (with_reducible refine Keeps.alloc ?_ _) | (with_reducible refine Keeps.drew ?_) | (with_reducible refine Keeps.drewN ?_ _)))⟩

set_option maxHeartbeats 1000000 in
theorem line_11 (b : Nat) (c d : Chip) (hc : c.ok) (hd : d.ok) (up : Bool) (w : World) (H : Pair w b c d) :
    Calls Try.prog 11 #[.pointer (some ⟨b, 0, none⟩), .int .i64 11, .bool up] w fun e w' => e = .returned (.int .i64 0) ∧ Pair w' b c (lineC d 3 up) ∧ Keeps (· = b) w w' := by
  obtain ⟨k0, k1, k2, k3, k4, k5, k6, k7, k8, k9, k10, k11, k12, k13, k14, k15, k16, k17, k18, k19, kf, klt⟩ := H.facts
  have ha := hd.asks
  have hu := hd.up
  have e1 : bits .andNot .u8 (d.asks : Int) 8 = ((d.asks &&& 247 : Nat) : Int) := u8_andNot_nat d.asks 8 ha (by decide)
  have e2 : bits .andNot .u8 (d.up : Int) 8 = ((d.up &&& 247 : Nat) : Int) := u8_andNot_nat d.up 8 hu (by decide)
  have e3 : bits .andNot .u8 8 (d.up : Int) = ((8 &&& (255 - d.up) : Nat) : Int) := u8_andNot_nat 8 d.up (by decide) hu
  have e4 : bits .or .u8 (d.asks : Int) ((8 &&& (255 - d.up) : Nat) : Int) = ((askUp d.asks d.up 8 : Nat) : Int) := u8_or_nat d.asks _ ha (Nat.lt_of_le_of_lt Nat.and_le_left (by decide))
  have e5 : bits .or .u8 (d.up : Int) 8 = ((d.up ||| 8 : Nat) : Int) := u8_or_nat d.up 8 hu (by decide)
  clear hc hd
  cases up
  all_goals
    go_enter Try.func11, Try.ntmps11
    go_wp2_with fail
    go_quiet (fail)
    go_wp2_with fail
    try go_region
    all_goals
      go_wp2_with fail
      go_ret
      exact ⟨rfl, by (unfold Pair Chip.cells at H ⊢; simp only [List.cons_append, List.nil_append] at H ⊢; simp only [heap_set_map, putObj_cells, H, Option.map_some, List.set_cons_succ, List.set_cons_zero, heap_drewN]; rfl), by (repeat' (first | (with_reducible exact Keeps.refl _ _) | (with_reducible assumption) | (with_reducible refine Keeps.setOne ?_ _ _) | (with_reducible refine Keeps.alloc ?_ _) | (with_reducible refine Keeps.drew ?_) | (with_reducible refine Keeps.drewN ?_ _)))⟩

set_option maxHeartbeats 1000000 in
theorem line_12 (b : Nat) (c d : Chip) (hc : c.ok) (hd : d.ok) (up : Bool) (w : World) (H : Pair w b c d) :
    Calls Try.prog 11 #[.pointer (some ⟨b, 0, none⟩), .int .i64 12, .bool up] w fun e w' => e = .returned (.int .i64 0) ∧ Pair w' b c (lineC d 4 up) ∧ Keeps (· = b) w w' := by
  obtain ⟨k0, k1, k2, k3, k4, k5, k6, k7, k8, k9, k10, k11, k12, k13, k14, k15, k16, k17, k18, k19, kf, klt⟩ := H.facts
  have ha := hd.asks
  have hu := hd.up
  have e1 : bits .andNot .u8 (d.asks : Int) 16 = ((d.asks &&& 239 : Nat) : Int) := u8_andNot_nat d.asks 16 ha (by decide)
  have e2 : bits .andNot .u8 (d.up : Int) 16 = ((d.up &&& 239 : Nat) : Int) := u8_andNot_nat d.up 16 hu (by decide)
  have e3 : bits .andNot .u8 16 (d.up : Int) = ((16 &&& (255 - d.up) : Nat) : Int) := u8_andNot_nat 16 d.up (by decide) hu
  have e4 : bits .or .u8 (d.asks : Int) ((16 &&& (255 - d.up) : Nat) : Int) = ((askUp d.asks d.up 16 : Nat) : Int) := u8_or_nat d.asks _ ha (Nat.lt_of_le_of_lt Nat.and_le_left (by decide))
  have e5 : bits .or .u8 (d.up : Int) 16 = ((d.up ||| 16 : Nat) : Int) := u8_or_nat d.up 16 hu (by decide)
  clear hc hd
  cases up
  all_goals
    go_enter Try.func11, Try.ntmps11
    go_wp2_with fail
    go_quiet (fail)
    go_wp2_with fail
    try go_region
    all_goals
      go_wp2_with fail
      go_ret
      exact ⟨rfl, by (unfold Pair Chip.cells at H ⊢; simp only [List.cons_append, List.nil_append] at H ⊢; simp only [heap_set_map, putObj_cells, H, Option.map_some, List.set_cons_succ, List.set_cons_zero, heap_drewN]; rfl), by (repeat' (first | (with_reducible exact Keeps.refl _ _) | (with_reducible assumption) | (with_reducible refine Keeps.setOne ?_ _ _) | (with_reducible refine Keeps.alloc ?_ _) | (with_reducible refine Keeps.drew ?_) | (with_reducible refine Keeps.drewN ?_ _)))⟩

set_option maxHeartbeats 1000000 in
theorem line_13 (b : Nat) (c d : Chip) (hc : c.ok) (hd : d.ok) (up : Bool) (w : World) (H : Pair w b c d) :
    Calls Try.prog 11 #[.pointer (some ⟨b, 0, none⟩), .int .i64 13, .bool up] w fun e w' => e = .returned (.int .i64 0) ∧ Pair w' b c (lineC d 5 up) ∧ Keeps (· = b) w w' := by
  obtain ⟨k0, k1, k2, k3, k4, k5, k6, k7, k8, k9, k10, k11, k12, k13, k14, k15, k16, k17, k18, k19, kf, klt⟩ := H.facts
  have ha := hd.asks
  have hu := hd.up
  have e1 : bits .andNot .u8 (d.asks : Int) 32 = ((d.asks &&& 223 : Nat) : Int) := u8_andNot_nat d.asks 32 ha (by decide)
  have e2 : bits .andNot .u8 (d.up : Int) 32 = ((d.up &&& 223 : Nat) : Int) := u8_andNot_nat d.up 32 hu (by decide)
  have e3 : bits .andNot .u8 32 (d.up : Int) = ((32 &&& (255 - d.up) : Nat) : Int) := u8_andNot_nat 32 d.up (by decide) hu
  have e4 : bits .or .u8 (d.asks : Int) ((32 &&& (255 - d.up) : Nat) : Int) = ((askUp d.asks d.up 32 : Nat) : Int) := u8_or_nat d.asks _ ha (Nat.lt_of_le_of_lt Nat.and_le_left (by decide))
  have e5 : bits .or .u8 (d.up : Int) 32 = ((d.up ||| 32 : Nat) : Int) := u8_or_nat d.up 32 hu (by decide)
  clear hc hd
  cases up
  all_goals
    go_enter Try.func11, Try.ntmps11
    go_wp2_with fail
    go_quiet (fail)
    go_wp2_with fail
    try go_region
    all_goals
      go_wp2_with fail
      go_ret
      exact ⟨rfl, by (unfold Pair Chip.cells at H ⊢; simp only [List.cons_append, List.nil_append] at H ⊢; simp only [heap_set_map, putObj_cells, H, Option.map_some, List.set_cons_succ, List.set_cons_zero, heap_drewN]; rfl), by (repeat' (first | (with_reducible exact Keeps.refl _ _) | (with_reducible assumption) | (with_reducible refine Keeps.setOne ?_ _ _) | (with_reducible refine Keeps.alloc ?_ _) | (with_reducible refine Keeps.drew ?_) | (with_reducible refine Keeps.drewN ?_ _)))⟩

set_option maxHeartbeats 1000000 in
theorem line_14 (b : Nat) (c d : Chip) (hc : c.ok) (hd : d.ok) (up : Bool) (w : World) (H : Pair w b c d) :
    Calls Try.prog 11 #[.pointer (some ⟨b, 0, none⟩), .int .i64 14, .bool up] w fun e w' => e = .returned (.int .i64 0) ∧ Pair w' b c (lineC d 6 up) ∧ Keeps (· = b) w w' := by
  obtain ⟨k0, k1, k2, k3, k4, k5, k6, k7, k8, k9, k10, k11, k12, k13, k14, k15, k16, k17, k18, k19, kf, klt⟩ := H.facts
  have ha := hd.asks
  have hu := hd.up
  have e1 : bits .andNot .u8 (d.asks : Int) 64 = ((d.asks &&& 191 : Nat) : Int) := u8_andNot_nat d.asks 64 ha (by decide)
  have e2 : bits .andNot .u8 (d.up : Int) 64 = ((d.up &&& 191 : Nat) : Int) := u8_andNot_nat d.up 64 hu (by decide)
  have e3 : bits .andNot .u8 64 (d.up : Int) = ((64 &&& (255 - d.up) : Nat) : Int) := u8_andNot_nat 64 d.up (by decide) hu
  have e4 : bits .or .u8 (d.asks : Int) ((64 &&& (255 - d.up) : Nat) : Int) = ((askUp d.asks d.up 64 : Nat) : Int) := u8_or_nat d.asks _ ha (Nat.lt_of_le_of_lt Nat.and_le_left (by decide))
  have e5 : bits .or .u8 (d.up : Int) 64 = ((d.up ||| 64 : Nat) : Int) := u8_or_nat d.up 64 hu (by decide)
  clear hc hd
  cases up
  all_goals
    go_enter Try.func11, Try.ntmps11
    go_wp2_with fail
    go_quiet (fail)
    go_wp2_with fail
    try go_region
    all_goals
      go_wp2_with fail
      go_ret
      exact ⟨rfl, by (unfold Pair Chip.cells at H ⊢; simp only [List.cons_append, List.nil_append] at H ⊢; simp only [heap_set_map, putObj_cells, H, Option.map_some, List.set_cons_succ, List.set_cons_zero, heap_drewN]; rfl), by (repeat' (first | (with_reducible exact Keeps.refl _ _) | (with_reducible assumption) | (with_reducible refine Keeps.setOne ?_ _ _) | (with_reducible refine Keeps.alloc ?_ _) | (with_reducible refine Keeps.drew ?_) | (with_reducible refine Keeps.drewN ?_ _)))⟩

set_option maxHeartbeats 1000000 in
theorem line_15 (b : Nat) (c d : Chip) (hc : c.ok) (hd : d.ok) (up : Bool) (w : World) (H : Pair w b c d) :
    Calls Try.prog 11 #[.pointer (some ⟨b, 0, none⟩), .int .i64 15, .bool up] w fun e w' => e = .returned (.int .i64 0) ∧ Pair w' b c (lineC d 7 up) ∧ Keeps (· = b) w w' := by
  obtain ⟨k0, k1, k2, k3, k4, k5, k6, k7, k8, k9, k10, k11, k12, k13, k14, k15, k16, k17, k18, k19, kf, klt⟩ := H.facts
  have ha := hd.asks
  have hu := hd.up
  have e1 : bits .andNot .u8 (d.asks : Int) 128 = ((d.asks &&& 127 : Nat) : Int) := u8_andNot_nat d.asks 128 ha (by decide)
  have e2 : bits .andNot .u8 (d.up : Int) 128 = ((d.up &&& 127 : Nat) : Int) := u8_andNot_nat d.up 128 hu (by decide)
  have e3 : bits .andNot .u8 128 (d.up : Int) = ((128 &&& (255 - d.up) : Nat) : Int) := u8_andNot_nat 128 d.up (by decide) hu
  have e4 : bits .or .u8 (d.asks : Int) ((128 &&& (255 - d.up) : Nat) : Int) = ((askUp d.asks d.up 128 : Nat) : Int) := u8_or_nat d.asks _ ha (Nat.lt_of_le_of_lt Nat.and_le_left (by decide))
  have e5 : bits .or .u8 (d.up : Int) 128 = ((d.up ||| 128 : Nat) : Int) := u8_or_nat d.up 128 hu (by decide)
  clear hc hd
  cases up
  all_goals
    go_enter Try.func11, Try.ntmps11
    go_wp2_with fail
    go_quiet (fail)
    go_wp2_with fail
    try go_region
    all_goals
      go_wp2_with fail
      go_ret
      exact ⟨rfl, by (unfold Pair Chip.cells at H ⊢; simp only [List.cons_append, List.nil_append] at H ⊢; simp only [heap_set_map, putObj_cells, H, Option.map_some, List.set_cons_succ, List.set_cons_zero, heap_drewN]; rfl), by (repeat' (first | (with_reducible exact Keeps.refl _ _) | (with_reducible assumption) | (with_reducible refine Keeps.setOne ?_ _ _) | (with_reducible refine Keeps.alloc ?_ _) | (with_reducible refine Keeps.drew ?_) | (with_reducible refine Keeps.drewN ?_ _)))⟩

theorem line_two (b : Nat) (c d : Chip) (up : Bool) (w : World) (H : Pair w b c d) :
    Calls Try.prog 11 #[.pointer (some ⟨b, 0, none⟩), .int .i64 2, .bool up] w fun e w' => e = .returned (.int .i64 0) ∧ Pair w' b c d ∧ Keeps (· = b) w w' := by
  go_enter Try.func11, Try.ntmps11
  go_wp2_with fail
  go_quiet (fail)
  go_wp2_with fail
  go_ret
  exact ⟨rfl, H, (Keeps.refl _ _).drewN _⟩
theorem line_bad (b : Nat) (n : Int) (up : Bool) (w : World) (h : n < 0 ∨ 15 < n) :
    Calls Try.prog 11 #[.pointer (some ⟨b, 0, none⟩), .int .i64 n, .bool up] w fun e w' => e = .returned (.int .i64 1) ∧ w = w' := by
  rcases h with h | h
  all_goals
    go_enter Try.func11, Try.ntmps11
    go_wp2_with fail
    go_ret
    exact ⟨rfl, rfl⟩
theorem line_nil (n : Int) (up : Bool) (w : World) :
    Calls Try.prog 11 #[.pointer none, .int .i64 n, .bool up] w fun e w' => e = .returned (.int .i64 1) ∧ w = w' := by
  go_enter Try.func11, Try.ntmps11
  go_wp2_with fail
  go_ret
  exact ⟨rfl, rfl⟩

set_option maxHeartbeats 1000000 in
theorem take1_0 (b : Nat) (c d : Chip) (hd : d.ok) (w : World) (H : Pair w b c d) (ht : isTold d.asks d.masked d.served = true) (hi : tz8 (left d.asks d.masked) = 0) :
    Calls Try.prog 26 #[.pointer (some ⟨b, 0, none⟩), .int .i64 1] w fun e w' => e = .returned (.int .i64 ((d.base : Int) + 0)) ∧ Pair w' b c (takeC d 0) ∧ Keeps (· = b) w w' := by
  have HT := Lib.hid ht
  have HI := Lib.hid hi
  have HD := Lib.hid hd
  have ha := hd.asks
  have hs := hd.served
  have hb := hd.base
  have e1 : bits .andNot .u8 (d.asks : Int) 1 = ((d.asks &&& 254 : Nat) : Int) := u8_andNot_nat d.asks 1 ha (by decide)
  have e5 : bits .or .u8 (d.served : Int) 1 = ((d.served ||| 1 : Nat) : Int) := u8_or_nat d.served 1 hs (by decide)
  clear ht hi hd
  cases hE : d.ends
  all_goals
    have HE := Lib.hid hE
    go_enter Try.func26, Try.ntmps26
    go_wp2_with fail
    refine (tells1_any b c d HD.out _ H).mono ?_
    rintro e w1 ⟨rfl, n, rfl⟩
    rw [HT.out, HI.out]
    obtain ⟨-, -, -, -, -, -, -, -, -, -, k10, k11, k12, k13, k14, k15, k16, k17, k18, k19, kf, klt⟩ := Pair.facts (w := w) H
    go_wp2_with fail
    go_region
    go_wp2_with fail
    try go_region
    all_goals
      go_wp2_with fail
      go_ret
      refine ⟨rfl, ?_, by (repeat' (first | (with_reducible exact Keeps.refl _ _) | (with_reducible assumption) | (with_reducible refine Keeps.setOne ?_ _ _) | (with_reducible refine Keeps.alloc ?_ _) | (with_reducible refine Keeps.drew ?_) | (with_reducible refine Keeps.drewN ?_ _)))⟩
      have hT : takeC d 0 = Chip.mk (d.asks &&& 254) (servedC d 0) d.masked d.up d.base d.told d.ends d.stage d.second d.last := rfl
      first
        | (have hS : servedC d 0 = d.served := by (unfold servedC; rw [hE]; rfl)
           rw [hT, hS])
        | (have hS : servedC d 0 = d.served ||| 1 := by (unfold servedC; rw [hE]; rfl)
           rw [hT, hS])
      unfold Pair Chip.cells at H ⊢
      simp only [List.cons_append, List.nil_append] at H ⊢
      (first | (simp only [heap_set_map, putObj_cells, H, Option.map_some, List.set_cons_succ, List.set_cons_zero, heap_drewN]; done) | (simp only [heap_set_map, putObj_cells, H, Option.map_some, List.set_cons_succ, List.set_cons_zero, heap_drewN, heap_drew]; done) | (simp only [heap_set_map, putObj_cells, H, Option.map_some, List.set_cons_succ, List.set_cons_zero, heap_drewN]; rfl) | (simp only [heap_set_map, putObj_cells, H, Option.map_some, List.set_cons_succ, List.set_cons_zero, heap_drewN, heap_drew]; rfl))

set_option maxHeartbeats 1000000 in
theorem take1_1 (b : Nat) (c d : Chip) (hd : d.ok) (w : World) (H : Pair w b c d) (ht : isTold d.asks d.masked d.served = true) (hi : tz8 (left d.asks d.masked) = 1) :
    Calls Try.prog 26 #[.pointer (some ⟨b, 0, none⟩), .int .i64 1] w fun e w' => e = .returned (.int .i64 ((d.base : Int) + 1)) ∧ Pair w' b c (takeC d 1) ∧ Keeps (· = b) w w' := by
  have HT := Lib.hid ht
  have HI := Lib.hid hi
  have HD := Lib.hid hd
  have ha := hd.asks
  have hs := hd.served
  have hb := hd.base
  have e1 : bits .andNot .u8 (d.asks : Int) 2 = ((d.asks &&& 253 : Nat) : Int) := u8_andNot_nat d.asks 2 ha (by decide)
  have e5 : bits .or .u8 (d.served : Int) 2 = ((d.served ||| 2 : Nat) : Int) := u8_or_nat d.served 2 hs (by decide)
  clear ht hi hd
  cases hE : d.ends
  all_goals
    have HE := Lib.hid hE
    go_enter Try.func26, Try.ntmps26
    go_wp2_with fail
    refine (tells1_any b c d HD.out _ H).mono ?_
    rintro e w1 ⟨rfl, n, rfl⟩
    rw [HT.out, HI.out]
    obtain ⟨-, -, -, -, -, -, -, -, -, -, k10, k11, k12, k13, k14, k15, k16, k17, k18, k19, kf, klt⟩ := Pair.facts (w := w) H
    go_wp2_with fail
    go_region
    go_wp2_with fail
    try go_region
    all_goals
      go_wp2_with fail
      go_ret
      refine ⟨rfl, ?_, by (repeat' (first | (with_reducible exact Keeps.refl _ _) | (with_reducible assumption) | (with_reducible refine Keeps.setOne ?_ _ _) | (with_reducible refine Keeps.alloc ?_ _) | (with_reducible refine Keeps.drew ?_) | (with_reducible refine Keeps.drewN ?_ _)))⟩
      have hT : takeC d 1 = Chip.mk (d.asks &&& 253) (servedC d 1) d.masked d.up d.base d.told d.ends d.stage d.second d.last := rfl
      first
        | (have hS : servedC d 1 = d.served := by (unfold servedC; rw [hE]; rfl)
           rw [hT, hS])
        | (have hS : servedC d 1 = d.served ||| 2 := by (unfold servedC; rw [hE]; rfl)
           rw [hT, hS])
      unfold Pair Chip.cells at H ⊢
      simp only [List.cons_append, List.nil_append] at H ⊢
      (first | (simp only [heap_set_map, putObj_cells, H, Option.map_some, List.set_cons_succ, List.set_cons_zero, heap_drewN]; done) | (simp only [heap_set_map, putObj_cells, H, Option.map_some, List.set_cons_succ, List.set_cons_zero, heap_drewN, heap_drew]; done) | (simp only [heap_set_map, putObj_cells, H, Option.map_some, List.set_cons_succ, List.set_cons_zero, heap_drewN]; rfl) | (simp only [heap_set_map, putObj_cells, H, Option.map_some, List.set_cons_succ, List.set_cons_zero, heap_drewN, heap_drew]; rfl))

set_option maxHeartbeats 1000000 in
theorem take1_2 (b : Nat) (c d : Chip) (hd : d.ok) (w : World) (H : Pair w b c d) (ht : isTold d.asks d.masked d.served = true) (hi : tz8 (left d.asks d.masked) = 2) :
    Calls Try.prog 26 #[.pointer (some ⟨b, 0, none⟩), .int .i64 1] w fun e w' => e = .returned (.int .i64 ((d.base : Int) + 2)) ∧ Pair w' b c (takeC d 2) ∧ Keeps (· = b) w w' := by
  have HT := Lib.hid ht
  have HI := Lib.hid hi
  have HD := Lib.hid hd
  have ha := hd.asks
  have hs := hd.served
  have hb := hd.base
  have e1 : bits .andNot .u8 (d.asks : Int) 4 = ((d.asks &&& 251 : Nat) : Int) := u8_andNot_nat d.asks 4 ha (by decide)
  have e5 : bits .or .u8 (d.served : Int) 4 = ((d.served ||| 4 : Nat) : Int) := u8_or_nat d.served 4 hs (by decide)
  clear ht hi hd
  cases hE : d.ends
  all_goals
    have HE := Lib.hid hE
    go_enter Try.func26, Try.ntmps26
    go_wp2_with fail
    refine (tells1_any b c d HD.out _ H).mono ?_
    rintro e w1 ⟨rfl, n, rfl⟩
    rw [HT.out, HI.out]
    obtain ⟨-, -, -, -, -, -, -, -, -, -, k10, k11, k12, k13, k14, k15, k16, k17, k18, k19, kf, klt⟩ := Pair.facts (w := w) H
    go_wp2_with fail
    go_region
    go_wp2_with fail
    try go_region
    all_goals
      go_wp2_with fail
      go_ret
      refine ⟨rfl, ?_, by (repeat' (first | (with_reducible exact Keeps.refl _ _) | (with_reducible assumption) | (with_reducible refine Keeps.setOne ?_ _ _) | (with_reducible refine Keeps.alloc ?_ _) | (with_reducible refine Keeps.drew ?_) | (with_reducible refine Keeps.drewN ?_ _)))⟩
      have hT : takeC d 2 = Chip.mk (d.asks &&& 251) (servedC d 2) d.masked d.up d.base d.told d.ends d.stage d.second d.last := rfl
      first
        | (have hS : servedC d 2 = d.served := by (unfold servedC; rw [hE]; rfl)
           rw [hT, hS])
        | (have hS : servedC d 2 = d.served ||| 4 := by (unfold servedC; rw [hE]; rfl)
           rw [hT, hS])
      unfold Pair Chip.cells at H ⊢
      simp only [List.cons_append, List.nil_append] at H ⊢
      (first | (simp only [heap_set_map, putObj_cells, H, Option.map_some, List.set_cons_succ, List.set_cons_zero, heap_drewN]; done) | (simp only [heap_set_map, putObj_cells, H, Option.map_some, List.set_cons_succ, List.set_cons_zero, heap_drewN, heap_drew]; done) | (simp only [heap_set_map, putObj_cells, H, Option.map_some, List.set_cons_succ, List.set_cons_zero, heap_drewN]; rfl) | (simp only [heap_set_map, putObj_cells, H, Option.map_some, List.set_cons_succ, List.set_cons_zero, heap_drewN, heap_drew]; rfl))

set_option maxHeartbeats 1000000 in
theorem take1_3 (b : Nat) (c d : Chip) (hd : d.ok) (w : World) (H : Pair w b c d) (ht : isTold d.asks d.masked d.served = true) (hi : tz8 (left d.asks d.masked) = 3) :
    Calls Try.prog 26 #[.pointer (some ⟨b, 0, none⟩), .int .i64 1] w fun e w' => e = .returned (.int .i64 ((d.base : Int) + 3)) ∧ Pair w' b c (takeC d 3) ∧ Keeps (· = b) w w' := by
  have HT := Lib.hid ht
  have HI := Lib.hid hi
  have HD := Lib.hid hd
  have ha := hd.asks
  have hs := hd.served
  have hb := hd.base
  have e1 : bits .andNot .u8 (d.asks : Int) 8 = ((d.asks &&& 247 : Nat) : Int) := u8_andNot_nat d.asks 8 ha (by decide)
  have e5 : bits .or .u8 (d.served : Int) 8 = ((d.served ||| 8 : Nat) : Int) := u8_or_nat d.served 8 hs (by decide)
  clear ht hi hd
  cases hE : d.ends
  all_goals
    have HE := Lib.hid hE
    go_enter Try.func26, Try.ntmps26
    go_wp2_with fail
    refine (tells1_any b c d HD.out _ H).mono ?_
    rintro e w1 ⟨rfl, n, rfl⟩
    rw [HT.out, HI.out]
    obtain ⟨-, -, -, -, -, -, -, -, -, -, k10, k11, k12, k13, k14, k15, k16, k17, k18, k19, kf, klt⟩ := Pair.facts (w := w) H
    go_wp2_with fail
    go_region
    go_wp2_with fail
    try go_region
    all_goals
      go_wp2_with fail
      go_ret
      refine ⟨rfl, ?_, by (repeat' (first | (with_reducible exact Keeps.refl _ _) | (with_reducible assumption) | (with_reducible refine Keeps.setOne ?_ _ _) | (with_reducible refine Keeps.alloc ?_ _) | (with_reducible refine Keeps.drew ?_) | (with_reducible refine Keeps.drewN ?_ _)))⟩
      have hT : takeC d 3 = Chip.mk (d.asks &&& 247) (servedC d 3) d.masked d.up d.base d.told d.ends d.stage d.second d.last := rfl
      first
        | (have hS : servedC d 3 = d.served := by (unfold servedC; rw [hE]; rfl)
           rw [hT, hS])
        | (have hS : servedC d 3 = d.served ||| 8 := by (unfold servedC; rw [hE]; rfl)
           rw [hT, hS])
      unfold Pair Chip.cells at H ⊢
      simp only [List.cons_append, List.nil_append] at H ⊢
      (first | (simp only [heap_set_map, putObj_cells, H, Option.map_some, List.set_cons_succ, List.set_cons_zero, heap_drewN]; done) | (simp only [heap_set_map, putObj_cells, H, Option.map_some, List.set_cons_succ, List.set_cons_zero, heap_drewN, heap_drew]; done) | (simp only [heap_set_map, putObj_cells, H, Option.map_some, List.set_cons_succ, List.set_cons_zero, heap_drewN]; rfl) | (simp only [heap_set_map, putObj_cells, H, Option.map_some, List.set_cons_succ, List.set_cons_zero, heap_drewN, heap_drew]; rfl))

set_option maxHeartbeats 1000000 in
theorem take1_4 (b : Nat) (c d : Chip) (hd : d.ok) (w : World) (H : Pair w b c d) (ht : isTold d.asks d.masked d.served = true) (hi : tz8 (left d.asks d.masked) = 4) :
    Calls Try.prog 26 #[.pointer (some ⟨b, 0, none⟩), .int .i64 1] w fun e w' => e = .returned (.int .i64 ((d.base : Int) + 4)) ∧ Pair w' b c (takeC d 4) ∧ Keeps (· = b) w w' := by
  have HT := Lib.hid ht
  have HI := Lib.hid hi
  have HD := Lib.hid hd
  have ha := hd.asks
  have hs := hd.served
  have hb := hd.base
  have e1 : bits .andNot .u8 (d.asks : Int) 16 = ((d.asks &&& 239 : Nat) : Int) := u8_andNot_nat d.asks 16 ha (by decide)
  have e5 : bits .or .u8 (d.served : Int) 16 = ((d.served ||| 16 : Nat) : Int) := u8_or_nat d.served 16 hs (by decide)
  clear ht hi hd
  cases hE : d.ends
  all_goals
    have HE := Lib.hid hE
    go_enter Try.func26, Try.ntmps26
    go_wp2_with fail
    refine (tells1_any b c d HD.out _ H).mono ?_
    rintro e w1 ⟨rfl, n, rfl⟩
    rw [HT.out, HI.out]
    obtain ⟨-, -, -, -, -, -, -, -, -, -, k10, k11, k12, k13, k14, k15, k16, k17, k18, k19, kf, klt⟩ := Pair.facts (w := w) H
    go_wp2_with fail
    go_region
    go_wp2_with fail
    try go_region
    all_goals
      go_wp2_with fail
      go_ret
      refine ⟨rfl, ?_, by (repeat' (first | (with_reducible exact Keeps.refl _ _) | (with_reducible assumption) | (with_reducible refine Keeps.setOne ?_ _ _) | (with_reducible refine Keeps.alloc ?_ _) | (with_reducible refine Keeps.drew ?_) | (with_reducible refine Keeps.drewN ?_ _)))⟩
      have hT : takeC d 4 = Chip.mk (d.asks &&& 239) (servedC d 4) d.masked d.up d.base d.told d.ends d.stage d.second d.last := rfl
      first
        | (have hS : servedC d 4 = d.served := by (unfold servedC; rw [hE]; rfl)
           rw [hT, hS])
        | (have hS : servedC d 4 = d.served ||| 16 := by (unfold servedC; rw [hE]; rfl)
           rw [hT, hS])
      unfold Pair Chip.cells at H ⊢
      simp only [List.cons_append, List.nil_append] at H ⊢
      (first | (simp only [heap_set_map, putObj_cells, H, Option.map_some, List.set_cons_succ, List.set_cons_zero, heap_drewN]; done) | (simp only [heap_set_map, putObj_cells, H, Option.map_some, List.set_cons_succ, List.set_cons_zero, heap_drewN, heap_drew]; done) | (simp only [heap_set_map, putObj_cells, H, Option.map_some, List.set_cons_succ, List.set_cons_zero, heap_drewN]; rfl) | (simp only [heap_set_map, putObj_cells, H, Option.map_some, List.set_cons_succ, List.set_cons_zero, heap_drewN, heap_drew]; rfl))

set_option maxHeartbeats 1000000 in
theorem take1_5 (b : Nat) (c d : Chip) (hd : d.ok) (w : World) (H : Pair w b c d) (ht : isTold d.asks d.masked d.served = true) (hi : tz8 (left d.asks d.masked) = 5) :
    Calls Try.prog 26 #[.pointer (some ⟨b, 0, none⟩), .int .i64 1] w fun e w' => e = .returned (.int .i64 ((d.base : Int) + 5)) ∧ Pair w' b c (takeC d 5) ∧ Keeps (· = b) w w' := by
  have HT := Lib.hid ht
  have HI := Lib.hid hi
  have HD := Lib.hid hd
  have ha := hd.asks
  have hs := hd.served
  have hb := hd.base
  have e1 : bits .andNot .u8 (d.asks : Int) 32 = ((d.asks &&& 223 : Nat) : Int) := u8_andNot_nat d.asks 32 ha (by decide)
  have e5 : bits .or .u8 (d.served : Int) 32 = ((d.served ||| 32 : Nat) : Int) := u8_or_nat d.served 32 hs (by decide)
  clear ht hi hd
  cases hE : d.ends
  all_goals
    have HE := Lib.hid hE
    go_enter Try.func26, Try.ntmps26
    go_wp2_with fail
    refine (tells1_any b c d HD.out _ H).mono ?_
    rintro e w1 ⟨rfl, n, rfl⟩
    rw [HT.out, HI.out]
    obtain ⟨-, -, -, -, -, -, -, -, -, -, k10, k11, k12, k13, k14, k15, k16, k17, k18, k19, kf, klt⟩ := Pair.facts (w := w) H
    go_wp2_with fail
    go_region
    go_wp2_with fail
    try go_region
    all_goals
      go_wp2_with fail
      go_ret
      refine ⟨rfl, ?_, by (repeat' (first | (with_reducible exact Keeps.refl _ _) | (with_reducible assumption) | (with_reducible refine Keeps.setOne ?_ _ _) | (with_reducible refine Keeps.alloc ?_ _) | (with_reducible refine Keeps.drew ?_) | (with_reducible refine Keeps.drewN ?_ _)))⟩
      have hT : takeC d 5 = Chip.mk (d.asks &&& 223) (servedC d 5) d.masked d.up d.base d.told d.ends d.stage d.second d.last := rfl
      first
        | (have hS : servedC d 5 = d.served := by (unfold servedC; rw [hE]; rfl)
           rw [hT, hS])
        | (have hS : servedC d 5 = d.served ||| 32 := by (unfold servedC; rw [hE]; rfl)
           rw [hT, hS])
      unfold Pair Chip.cells at H ⊢
      simp only [List.cons_append, List.nil_append] at H ⊢
      (first | (simp only [heap_set_map, putObj_cells, H, Option.map_some, List.set_cons_succ, List.set_cons_zero, heap_drewN]; done) | (simp only [heap_set_map, putObj_cells, H, Option.map_some, List.set_cons_succ, List.set_cons_zero, heap_drewN, heap_drew]; done) | (simp only [heap_set_map, putObj_cells, H, Option.map_some, List.set_cons_succ, List.set_cons_zero, heap_drewN]; rfl) | (simp only [heap_set_map, putObj_cells, H, Option.map_some, List.set_cons_succ, List.set_cons_zero, heap_drewN, heap_drew]; rfl))

set_option maxHeartbeats 1000000 in
theorem take1_6 (b : Nat) (c d : Chip) (hd : d.ok) (w : World) (H : Pair w b c d) (ht : isTold d.asks d.masked d.served = true) (hi : tz8 (left d.asks d.masked) = 6) :
    Calls Try.prog 26 #[.pointer (some ⟨b, 0, none⟩), .int .i64 1] w fun e w' => e = .returned (.int .i64 ((d.base : Int) + 6)) ∧ Pair w' b c (takeC d 6) ∧ Keeps (· = b) w w' := by
  have HT := Lib.hid ht
  have HI := Lib.hid hi
  have HD := Lib.hid hd
  have ha := hd.asks
  have hs := hd.served
  have hb := hd.base
  have e1 : bits .andNot .u8 (d.asks : Int) 64 = ((d.asks &&& 191 : Nat) : Int) := u8_andNot_nat d.asks 64 ha (by decide)
  have e5 : bits .or .u8 (d.served : Int) 64 = ((d.served ||| 64 : Nat) : Int) := u8_or_nat d.served 64 hs (by decide)
  clear ht hi hd
  cases hE : d.ends
  all_goals
    have HE := Lib.hid hE
    go_enter Try.func26, Try.ntmps26
    go_wp2_with fail
    refine (tells1_any b c d HD.out _ H).mono ?_
    rintro e w1 ⟨rfl, n, rfl⟩
    rw [HT.out, HI.out]
    obtain ⟨-, -, -, -, -, -, -, -, -, -, k10, k11, k12, k13, k14, k15, k16, k17, k18, k19, kf, klt⟩ := Pair.facts (w := w) H
    go_wp2_with fail
    go_region
    go_wp2_with fail
    try go_region
    all_goals
      go_wp2_with fail
      go_ret
      refine ⟨rfl, ?_, by (repeat' (first | (with_reducible exact Keeps.refl _ _) | (with_reducible assumption) | (with_reducible refine Keeps.setOne ?_ _ _) | (with_reducible refine Keeps.alloc ?_ _) | (with_reducible refine Keeps.drew ?_) | (with_reducible refine Keeps.drewN ?_ _)))⟩
      have hT : takeC d 6 = Chip.mk (d.asks &&& 191) (servedC d 6) d.masked d.up d.base d.told d.ends d.stage d.second d.last := rfl
      first
        | (have hS : servedC d 6 = d.served := by (unfold servedC; rw [hE]; rfl)
           rw [hT, hS])
        | (have hS : servedC d 6 = d.served ||| 64 := by (unfold servedC; rw [hE]; rfl)
           rw [hT, hS])
      unfold Pair Chip.cells at H ⊢
      simp only [List.cons_append, List.nil_append] at H ⊢
      (first | (simp only [heap_set_map, putObj_cells, H, Option.map_some, List.set_cons_succ, List.set_cons_zero, heap_drewN]; done) | (simp only [heap_set_map, putObj_cells, H, Option.map_some, List.set_cons_succ, List.set_cons_zero, heap_drewN, heap_drew]; done) | (simp only [heap_set_map, putObj_cells, H, Option.map_some, List.set_cons_succ, List.set_cons_zero, heap_drewN]; rfl) | (simp only [heap_set_map, putObj_cells, H, Option.map_some, List.set_cons_succ, List.set_cons_zero, heap_drewN, heap_drew]; rfl))

set_option maxHeartbeats 1000000 in
theorem take1_7 (b : Nat) (c d : Chip) (hd : d.ok) (w : World) (H : Pair w b c d) (ht : isTold d.asks d.masked d.served = true) (hi : tz8 (left d.asks d.masked) = 7) :
    Calls Try.prog 26 #[.pointer (some ⟨b, 0, none⟩), .int .i64 1] w fun e w' => e = .returned (.int .i64 ((d.base : Int) + 7)) ∧ Pair w' b c (takeC d 7) ∧ Keeps (· = b) w w' := by
  have HT := Lib.hid ht
  have HI := Lib.hid hi
  have HD := Lib.hid hd
  have ha := hd.asks
  have hs := hd.served
  have hb := hd.base
  have e1 : bits .andNot .u8 (d.asks : Int) 128 = ((d.asks &&& 127 : Nat) : Int) := u8_andNot_nat d.asks 128 ha (by decide)
  have e5 : bits .or .u8 (d.served : Int) 128 = ((d.served ||| 128 : Nat) : Int) := u8_or_nat d.served 128 hs (by decide)
  clear ht hi hd
  cases hE : d.ends
  all_goals
    have HE := Lib.hid hE
    go_enter Try.func26, Try.ntmps26
    go_wp2_with fail
    refine (tells1_any b c d HD.out _ H).mono ?_
    rintro e w1 ⟨rfl, n, rfl⟩
    rw [HT.out, HI.out]
    obtain ⟨-, -, -, -, -, -, -, -, -, -, k10, k11, k12, k13, k14, k15, k16, k17, k18, k19, kf, klt⟩ := Pair.facts (w := w) H
    go_wp2_with fail
    go_region
    go_wp2_with fail
    try go_region
    all_goals
      go_wp2_with fail
      go_ret
      refine ⟨rfl, ?_, by (repeat' (first | (with_reducible exact Keeps.refl _ _) | (with_reducible assumption) | (with_reducible refine Keeps.setOne ?_ _ _) | (with_reducible refine Keeps.alloc ?_ _) | (with_reducible refine Keeps.drew ?_) | (with_reducible refine Keeps.drewN ?_ _)))⟩
      have hT : takeC d 7 = Chip.mk (d.asks &&& 127) (servedC d 7) d.masked d.up d.base d.told d.ends d.stage d.second d.last := rfl
      first
        | (have hS : servedC d 7 = d.served := by (unfold servedC; rw [hE]; rfl)
           rw [hT, hS])
        | (have hS : servedC d 7 = d.served ||| 128 := by (unfold servedC; rw [hE]; rfl)
           rw [hT, hS])
      unfold Pair Chip.cells at H ⊢
      simp only [List.cons_append, List.nil_append] at H ⊢
      (first | (simp only [heap_set_map, putObj_cells, H, Option.map_some, List.set_cons_succ, List.set_cons_zero, heap_drewN]; done) | (simp only [heap_set_map, putObj_cells, H, Option.map_some, List.set_cons_succ, List.set_cons_zero, heap_drewN, heap_drew]; done) | (simp only [heap_set_map, putObj_cells, H, Option.map_some, List.set_cons_succ, List.set_cons_zero, heap_drewN]; rfl) | (simp only [heap_set_map, putObj_cells, H, Option.map_some, List.set_cons_succ, List.set_cons_zero, heap_drewN, heap_drew]; rfl))
end Go.Proofs.Ytfijohgbgadhiaa
