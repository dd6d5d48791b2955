/- pic: take; Ack; Line. -/
import Derived.Test.YtfijohgbgadhiaaPicB
namespace Go.Proofs.Ytfijohgbgadhiaa
open Go.RowKit
set_option linter.unusedVariables false
set_option linter.unusedSimpArgs false

theorem isTold_lt {a m s : Nat} (hs : s < 256) (h : isTold a m s = true) : tz8 (left a m) < 8 := by
  have h1 := tz8_le s hs
  unfold isTold at h
  have h2 := of_decide_eq_true h
  unfold left
  omega

set_option maxHeartbeats 1000000 in
theorem take1_no (b : Nat) (c d : Chip) (hd : d.ok) (w : World) (H : Pair w b c d) (ht : isTold d.asks d.masked d.served = false) :
    Calls Try.prog 26 #[.pointer (some ⟨b, 0, none⟩), .int .i64 1] w fun e w' => e = .returned (.int .i64 ((d.base : Int) + 7)) ∧ ∃ n, w' = w.drewN n := by
  have HT := Lib.hid ht
  have HD := Lib.hid hd
  have hb := hd.base
  clear ht hd
  go_enter Try.func26, Try.ntmps26
  go_wp2_with fail
  refine (tells1_any b c d HD.out _ H).mono ?_
  rintro e w1 ⟨rfl, n, rfl⟩
  rw [HT.out]
  obtain ⟨-, -, -, -, -, -, -, -, -, -, k10, k11, k12, k13, k14, k15, k16, k17, k18, k19, kf, klt⟩ := Pair.facts (w := w) H
  go_wp2_with fail
  go_ret
  exact ⟨rfl, _, rfl⟩

def vec1 (d : Chip) : Nat := if isTold d.asks d.masked d.served then d.base + tz8 (left d.asks d.masked) else d.base + 7
def tk1 (d : Chip) : Chip := if isTold d.asks d.masked d.served then takeC d (tz8 (left d.asks d.masked)) else d

theorem take1_any (b : Nat) (c d : Chip) (hd : d.ok) (w : World) (H : Pair w b c d) :
    Calls Try.prog 26 #[.pointer (some ⟨b, 0, none⟩), .int .i64 1] w fun e w' => e = .returned (.int .i64 (vec1 d)) ∧ Pair w' b c (tk1 d) ∧ Keeps (· = b) w w' := by
  cases ht : isTold d.asks d.masked d.served
  · refine (take1_no b c d hd w H ht).mono ?_
    rintro e w1 ⟨rfl, n, rfl⟩
    unfold vec1 tk1
    rw [ht]
    exact ⟨rfl, H, (Keeps.refl _ _).drewN _⟩
  · have hl := isTold_lt hd.served ht
    have key : ∀ i, tz8 (left d.asks d.masked) = i → i < 8 → Calls Try.prog 26 #[.pointer (some ⟨b, 0, none⟩), .int .i64 1] w fun e w' => e = .returned (.int .i64 ((d.base : Int) + (i : Nat))) ∧ Pair w' b c (takeC d i) ∧ Keeps (· = b) w w' := by
      intro i hi h8
      obtain rfl | rfl | rfl | rfl | rfl | rfl | rfl | rfl : i = 0 ∨ i = 1 ∨ i = 2 ∨ i = 3 ∨ i = 4 ∨ i = 5 ∨ i = 6 ∨ i = 7 := by omega
      · exact take1_0 b c d hd w H ht hi
      · exact take1_1 b c d hd w H ht hi
      · exact take1_2 b c d hd w H ht hi
      · exact take1_3 b c d hd w H ht hi
      · exact take1_4 b c d hd w H ht hi
      · exact take1_5 b c d hd w H ht hi
      · exact take1_6 b c d hd w H ht hi
      · exact take1_7 b c d hd w H ht hi
    refine (key _ rfl hl).mono ?_
    rintro e w1 ⟨rfl, h1, h2⟩
    unfold vec1 tk1
    rw [ht]
    exact ⟨rfl, h1, h2⟩

theorem takeC_ok {c : Chip} (h : c.ok) (i : Nat) (hi : i < 8) : (takeC c i).ok := by
  refine ⟨andNot_lt _ _ h.asks, ?_, h.masked, h.up, h.base, h.stage⟩
  show servedC c i < 256
  unfold servedC
  split
  · exact h.served
  · exact Nat.or_lt_two_pow (n := 8) h.served (Nat.pow_lt_pow_right (a := 2) (by decide) hi)
theorem tk1_ok {d : Chip} (h : d.ok) : (tk1 d).ok := by
  unfold tk1
  split
  · rename_i ht
    exact takeC_ok h _ (isTold_lt h.served ht)
  · exact h
theorem lineC_ok {c : Chip} (h : c.ok) (k : Nat) (hk : k < 8) (up : Bool) : (lineC c k up).ok := by
  have hp : 2 ^ k < 256 := Nat.pow_lt_pow_right (a := 2) (by decide) hk
  unfold lineC
  split
  · exact ⟨show askUp c.asks c.up (2 ^ k) < 256 from Nat.or_lt_two_pow (n := 8) h.asks (Nat.lt_of_le_of_lt Nat.and_le_left hp), h.served, h.masked, Nat.or_lt_two_pow (n := 8) h.up hp, h.base, h.stage⟩
  · exact ⟨andNot_lt _ _ h.asks, h.served, h.masked, andNot_lt _ _ h.up, h.base, h.stage⟩

def told0 (c d : Chip) : Bool := isTold (ask0 c d) c.masked c.served
def line0 (c d : Chip) : Nat := tz8 (left (ask0 c d) c.masked)
def vec0 (c d : Chip) : Nat := if told0 c d then (if line0 c d = 2 then vec1 d else c.base + line0 c d) else c.base + 7
def tkc (c d : Chip) : Chip := if told0 c d then takeC c (line0 c d) else c
def tkd (c d : Chip) : Chip := if told0 c d then (if line0 c d = 2 then tk1 d else d) else d
theorem line0_lt {c d : Chip} (hc : c.ok) (h : told0 c d = true) : line0 c d < 8 := isTold_lt hc.served h
theorem tkc_ok {c d : Chip} (hc : c.ok) : (tkc c d).ok := by
  unfold tkc
  split
  · rename_i ht
    exact takeC_ok hc _ (line0_lt hc ht)
  · exact hc
theorem tkd_ok {c d : Chip} (hd : d.ok) : (tkd c d).ok := by
  unfold tkd
  split
  · split
    · exact tk1_ok hd
    · exact hd
  · exact hd

set_option maxHeartbeats 1000000 in
theorem take0_no (b : Nat) (c d : Chip) (hc : c.ok) (hd : d.ok) (w : World) (H : Pair w b c d) (ht : told0 c d = false) :
    Calls Try.prog 26 #[.pointer (some ⟨b, 0, none⟩), .int .i64 0] w fun e w' => e = .returned (.int .i64 ((c.base : Int) + 7)) ∧ ∃ n, w' = w.drewN n := by
  have HT := Lib.hid ht
  have HD := Lib.hid hd
  have HC := Lib.hid hc
  have hb := hc.base
  clear ht hd hc
  go_enter Try.func26, Try.ntmps26
  go_wp2_with fail
  refine (tells0_any b c d HC.out HD.out _ H).mono ?_
  rintro e w1 ⟨rfl, n, rfl⟩
  have hT : isTold (ask0 c d) c.masked c.served = false := HT.out
  rw [hT]
  clear hT
  obtain ⟨k0, k1, k2, k3, k4, k5, k6, k7, k8, k9, -, -, -, -, -, -, -, -, -, -, kf, klt⟩ := Pair.facts (w := w) H
  go_wp2_with fail
  go_ret
  exact ⟨rfl, _, rfl⟩

set_option maxHeartbeats 1000000 in
theorem take0_0 (b : Nat) (c d : Chip) (hc : c.ok) (hd : d.ok) (w : World) (H : Pair w b c d) (ht : told0 c d = true) (hi : line0 c d = 0) :
    Calls Try.prog 26 #[.pointer (some ⟨b, 0, none⟩), .int .i64 0] w fun e w' => e = .returned (.int .i64 ((c.base : Int) + 0)) ∧ Pair w' b (takeC c 0) d ∧ Keeps (· = b) w w' := by
  have HT := Lib.hid ht
  have HI := Lib.hid hi
  have HD := Lib.hid hd
  have HC := Lib.hid hc
  have ha := hc.asks
  have hs := hc.served
  have hb := hc.base
  have e1 : bits .andNot .u8 (c.asks : Int) 1 = ((c.asks &&& 254 : Nat) : Int) := u8_andNot_nat c.asks 1 ha (by decide)
  have e5 : bits .or .u8 (c.served : Int) 1 = ((c.served ||| 1 : Nat) : Int) := u8_or_nat c.served 1 hs (by decide)
  clear ht hi hd hc
  cases hE : c.ends
  all_goals
    have HE := Lib.hid hE
    go_enter Try.func26, Try.ntmps26
    go_wp2_with fail
    refine (tells0_any b c d HC.out HD.out _ H).mono ?_
    rintro e w1 ⟨rfl, n, rfl⟩
    have hT : isTold (ask0 c d) c.masked c.served = true := HT.out
    have hI : tz8 (left (ask0 c d) c.masked) = 0 := HI.out
    rw [hT, hI]
    clear hT hI
    obtain ⟨k0, k1, k2, k3, k4, k5, k6, k7, k8, k9, -, -, -, -, -, -, -, -, -, -, kf, klt⟩ := Pair.facts (w := w) H
    go_wp2_with fail
    go_region
    go_wp2_with fail
    try go_region
    all_goals
      go_wp2_with fail
      go_ret
      refine ⟨rfl, ?_, by (repeat' (first | (with_reducible exact Keeps.refl _ _) | (with_reducible assumption) | (with_reducible refine Keeps.setOne ?_ _ _) | (with_reducible refine Keeps.alloc ?_ _) | (with_reducible refine Keeps.drew ?_) | (with_reducible refine Keeps.drewN ?_ _)))⟩
      have hT : takeC c 0 = Chip.mk (c.asks &&& 254) (servedC c 0) c.masked c.up c.base c.told c.ends c.stage c.second c.last := rfl
      first
        | (have hS : servedC c 0 = c.served := by (unfold servedC; rw [hE]; rfl)
           rw [hT, hS])
        | (have hS : servedC c 0 = c.served ||| 1 := by (unfold servedC; rw [hE]; rfl)
           rw [hT, hS])
      unfold Pair Chip.cells at H ⊢
      simp only [List.cons_append, List.nil_append] at H ⊢
      (first | (simp only [heap_set_map, putObj_cells, H, Option.map_some, List.set_cons_succ, List.set_cons_zero, heap_drewN, heap_drew]; done) | (simp only [heap_set_map, putObj_cells, H, Option.map_some, List.set_cons_succ, List.set_cons_zero, heap_drewN, heap_drew]; rfl))

set_option maxHeartbeats 1000000 in
theorem take0_1 (b : Nat) (c d : Chip) (hc : c.ok) (hd : d.ok) (w : World) (H : Pair w b c d) (ht : told0 c d = true) (hi : line0 c d = 1) :
    Calls Try.prog 26 #[.pointer (some ⟨b, 0, none⟩), .int .i64 0] w fun e w' => e = .returned (.int .i64 ((c.base : Int) + 1)) ∧ Pair w' b (takeC c 1) d ∧ Keeps (· = b) w w' := by
  have HT := Lib.hid ht
  have HI := Lib.hid hi
  have HD := Lib.hid hd
  have HC := Lib.hid hc
  have ha := hc.asks
  have hs := hc.served
  have hb := hc.base
  have e1 : bits .andNot .u8 (c.asks : Int) 2 = ((c.asks &&& 253 : Nat) : Int) := u8_andNot_nat c.asks 2 ha (by decide)
  have e5 : bits .or .u8 (c.served : Int) 2 = ((c.served ||| 2 : Nat) : Int) := u8_or_nat c.served 2 hs (by decide)
  clear ht hi hd hc
  cases hE : c.ends
  all_goals
    have HE := Lib.hid hE
    go_enter Try.func26, Try.ntmps26
    go_wp2_with fail
    refine (tells0_any b c d HC.out HD.out _ H).mono ?_
    rintro e w1 ⟨rfl, n, rfl⟩
    have hT : isTold (ask0 c d) c.masked c.served = true := HT.out
    have hI : tz8 (left (ask0 c d) c.masked) = 1 := HI.out
    rw [hT, hI]
    clear hT hI
    obtain ⟨k0, k1, k2, k3, k4, k5, k6, k7, k8, k9, -, -, -, -, -, -, -, -, -, -, kf, klt⟩ := Pair.facts (w := w) H
    go_wp2_with fail
    go_region
    go_wp2_with fail
    try go_region
    all_goals
      go_wp2_with fail
      go_ret
      refine ⟨rfl, ?_, by (repeat' (first | (with_reducible exact Keeps.refl _ _) | (with_reducible assumption) | (with_reducible refine Keeps.setOne ?_ _ _) | (with_reducible refine Keeps.alloc ?_ _) | (with_reducible refine Keeps.drew ?_) | (with_reducible refine Keeps.drewN ?_ _)))⟩
      have hT : takeC c 1 = Chip.mk (c.asks &&& 253) (servedC c 1) c.masked c.up c.base c.told c.ends c.stage c.second c.last := rfl
      first
        | (have hS : servedC c 1 = c.served := by (unfold servedC; rw [hE]; rfl)
           rw [hT, hS])
        | (have hS : servedC c 1 = c.served ||| 2 := by (unfold servedC; rw [hE]; rfl)
           rw [hT, hS])
      unfold Pair Chip.cells at H ⊢
      simp only [List.cons_append, List.nil_append] at H ⊢
      (first | (simp only [heap_set_map, putObj_cells, H, Option.map_some, List.set_cons_succ, List.set_cons_zero, heap_drewN, heap_drew]; done) | (simp only [heap_set_map, putObj_cells, H, Option.map_some, List.set_cons_succ, List.set_cons_zero, heap_drewN, heap_drew]; rfl))

set_option maxHeartbeats 1000000 in
theorem take0_2 (b : Nat) (c d : Chip) (hc : c.ok) (hd : d.ok) (w : World) (H : Pair w b c d) (ht : told0 c d = true) (hi : line0 c d = 2) :
    Calls Try.prog 26 #[.pointer (some ⟨b, 0, none⟩), .int .i64 0] w fun e w' => e = .returned (.int .i64 (vec1 d)) ∧ Pair w' b (takeC c 2) (tk1 d) ∧ Keeps (· = b) w w' := by
  have HT := Lib.hid ht
  have HI := Lib.hid hi
  have HD := Lib.hid hd
  have HC := Lib.hid hc
  have ha := hc.asks
  have hs := hc.served
  have hb := hc.base
  have e1 : bits .andNot .u8 (c.asks : Int) 4 = ((c.asks &&& 251 : Nat) : Int) := u8_andNot_nat c.asks 4 ha (by decide)
  have e5 : bits .or .u8 (c.served : Int) 4 = ((c.served ||| 4 : Nat) : Int) := u8_or_nat c.served 4 hs (by decide)
  clear ht hi hd hc
  cases hE : c.ends
  all_goals
    have HE := Lib.hid hE
    go_enter Try.func26, Try.ntmps26
    go_wp2_with fail
    refine (tells0_any b c d HC.out HD.out _ H).mono ?_
    rintro e w1 ⟨rfl, n, rfl⟩
    have hT : isTold (ask0 c d) c.masked c.served = true := HT.out
    have hI : tz8 (left (ask0 c d) c.masked) = 2 := HI.out
    rw [hT, hI]
    clear hT hI
    obtain ⟨k0, k1, k2, k3, k4, k5, k6, k7, k8, k9, -, -, -, -, -, -, -, -, -, -, kf, klt⟩ := Pair.facts (w := w) H
    go_wp2_with fail
    refine (take1_any b c d HD.out (World.drewN w n) H).mono ?_
    rintro e w1 ⟨rfl, H1, hk⟩
    clear H kf klt k0 k1 k2 k3 k4 k5 k6 k7 k8 k9
    have H := H1
    clear H1
    obtain ⟨k0, k1, k2, k3, k4, k5, k6, k7, k8, k9, -, -, -, -, -, -, -, -, -, -, kf, klt⟩ := Pair.facts (w := w1) H
    go_wp2_with fail
    go_region
    go_wp2_with fail
    try go_region
    all_goals
      go_wp2_with fail
      go_ret
      refine ⟨rfl, ?_, by (repeat' (first | (with_reducible exact Keeps.refl _ _) | (with_reducible exact (((Keeps.refl _ _).drewN _).trans hk)) | (with_reducible exact hk) | (with_reducible refine Keeps.setOne ?_ _ _) | (with_reducible refine Keeps.alloc ?_ _) | (with_reducible refine Keeps.drew ?_) | (with_reducible refine Keeps.drewN ?_ _)))⟩
      have hT : takeC c 2 = Chip.mk (c.asks &&& 251) (servedC c 2) c.masked c.up c.base c.told c.ends c.stage c.second c.last := rfl
      first
        | (have hS : servedC c 2 = c.served := by (unfold servedC; rw [hE]; rfl)
           rw [hT, hS])
        | (have hS : servedC c 2 = c.served ||| 4 := by (unfold servedC; rw [hE]; rfl)
           rw [hT, hS])
      unfold Pair Chip.cells at H ⊢
      simp only [List.cons_append, List.nil_append] at H ⊢
      (first | (simp only [heap_set_map, putObj_cells, H, Option.map_some, List.set_cons_succ, List.set_cons_zero, heap_drewN, heap_drew]; done) | (simp only [heap_set_map, putObj_cells, H, Option.map_some, List.set_cons_succ, List.set_cons_zero, heap_drewN, heap_drew]; rfl))

set_option maxHeartbeats 1000000 in
theorem take0_3 (b : Nat) (c d : Chip) (hc : c.ok) (hd : d.ok) (w : World) (H : Pair w b c d) (ht : told0 c d = true) (hi : line0 c d = 3) :
    Calls Try.prog 26 #[.pointer (some ⟨b, 0, none⟩), .int .i64 0] w fun e w' => e = .returned (.int .i64 ((c.base : Int) + 3)) ∧ Pair w' b (takeC c 3) d ∧ Keeps (· = b) w w' := by
  have HT := Lib.hid ht
  have HI := Lib.hid hi
  have HD := Lib.hid hd
  have HC := Lib.hid hc
  have ha := hc.asks
  have hs := hc.served
  have hb := hc.base
  have e1 : bits .andNot .u8 (c.asks : Int) 8 = ((c.asks &&& 247 : Nat) : Int) := u8_andNot_nat c.asks 8 ha (by decide)
  have e5 : bits .or .u8 (c.served : Int) 8 = ((c.served ||| 8 : Nat) : Int) := u8_or_nat c.served 8 hs (by decide)
  clear ht hi hd hc
  cases hE : c.ends
  all_goals
    have HE := Lib.hid hE
    go_enter Try.func26, Try.ntmps26
    go_wp2_with fail
    refine (tells0_any b c d HC.out HD.out _ H).mono ?_
    rintro e w1 ⟨rfl, n, rfl⟩
    have hT : isTold (ask0 c d) c.masked c.served = true := HT.out
    have hI : tz8 (left (ask0 c d) c.masked) = 3 := HI.out
    rw [hT, hI]
    clear hT hI
    obtain ⟨k0, k1, k2, k3, k4, k5, k6, k7, k8, k9, -, -, -, -, -, -, -, -, -, -, kf, klt⟩ := Pair.facts (w := w) H
    go_wp2_with fail
    go_region
    go_wp2_with fail
    try go_region
    all_goals
      go_wp2_with fail
      go_ret
      refine ⟨rfl, ?_, by (repeat' (first | (with_reducible exact Keeps.refl _ _) | (with_reducible assumption) | (with_reducible refine Keeps.setOne ?_ _ _) | (with_reducible refine Keeps.alloc ?_ _) | (with_reducible refine Keeps.drew ?_) | (with_reducible refine Keeps.drewN ?_ _)))⟩
      have hT : takeC c 3 = Chip.mk (c.asks &&& 247) (servedC c 3) c.masked c.up c.base c.told c.ends c.stage c.second c.last := rfl
      first
        | (have hS : servedC c 3 = c.served := by (unfold servedC; rw [hE]; rfl)
           rw [hT, hS])
        | (have hS : servedC c 3 = c.served ||| 8 := by (unfold servedC; rw [hE]; rfl)
           rw [hT, hS])
      unfold Pair Chip.cells at H ⊢
      simp only [List.cons_append, List.nil_append] at H ⊢
      (first | (simp only [heap_set_map, putObj_cells, H, Option.map_some, List.set_cons_succ, List.set_cons_zero, heap_drewN, heap_drew]; done) | (simp only [heap_set_map, putObj_cells, H, Option.map_some, List.set_cons_succ, List.set_cons_zero, heap_drewN, heap_drew]; rfl))

set_option maxHeartbeats 1000000 in
theorem take0_4 (b : Nat) (c d : Chip) (hc : c.ok) (hd : d.ok) (w : World) (H : Pair w b c d) (ht : told0 c d = true) (hi : line0 c d = 4) :
    Calls Try.prog 26 #[.pointer (some ⟨b, 0, none⟩), .int .i64 0] w fun e w' => e = .returned (.int .i64 ((c.base : Int) + 4)) ∧ Pair w' b (takeC c 4) d ∧ Keeps (· = b) w w' := by
  have HT := Lib.hid ht
  have HI := Lib.hid hi
  have HD := Lib.hid hd
  have HC := Lib.hid hc
  have ha := hc.asks
  have hs := hc.served
  have hb := hc.base
  have e1 : bits .andNot .u8 (c.asks : Int) 16 = ((c.asks &&& 239 : Nat) : Int) := u8_andNot_nat c.asks 16 ha (by decide)
  have e5 : bits .or .u8 (c.served : Int) 16 = ((c.served ||| 16 : Nat) : Int) := u8_or_nat c.served 16 hs (by decide)
  clear ht hi hd hc
  cases hE : c.ends
  all_goals
    have HE := Lib.hid hE
    go_enter Try.func26, Try.ntmps26
    go_wp2_with fail
    refine (tells0_any b c d HC.out HD.out _ H).mono ?_
    rintro e w1 ⟨rfl, n, rfl⟩
    have hT : isTold (ask0 c d) c.masked c.served = true := HT.out
    have hI : tz8 (left (ask0 c d) c.masked) = 4 := HI.out
    rw [hT, hI]
    clear hT hI
    obtain ⟨k0, k1, k2, k3, k4, k5, k6, k7, k8, k9, -, -, -, -, -, -, -, -, -, -, kf, klt⟩ := Pair.facts (w := w) H
    go_wp2_with fail
    go_region
    go_wp2_with fail
    try go_region
    all_goals
      go_wp2_with fail
      go_ret
      refine ⟨rfl, ?_, by (repeat' (first | (with_reducible exact Keeps.refl _ _) | (with_reducible assumption) | (with_reducible refine Keeps.setOne ?_ _ _) | (with_reducible refine Keeps.alloc ?_ _) | (with_reducible refine Keeps.drew ?_) | (with_reducible refine Keeps.drewN ?_ _)))⟩
      have hT : takeC c 4 = Chip.mk (c.asks &&& 239) (servedC c 4) c.masked c.up c.base c.told c.ends c.stage c.second c.last := rfl
      first
        | (have hS : servedC c 4 = c.served := by (unfold servedC; rw [hE]; rfl)
           rw [hT, hS])
        | (have hS : servedC c 4 = c.served ||| 16 := by (unfold servedC; rw [hE]; rfl)
           rw [hT, hS])
      unfold Pair Chip.cells at H ⊢
      simp only [List.cons_append, List.nil_append] at H ⊢
      (first | (simp only [heap_set_map, putObj_cells, H, Option.map_some, List.set_cons_succ, List.set_cons_zero, heap_drewN, heap_drew]; done) | (simp only [heap_set_map, putObj_cells, H, Option.map_some, List.set_cons_succ, List.set_cons_zero, heap_drewN, heap_drew]; rfl))

set_option maxHeartbeats 1000000 in
theorem take0_5 (b : Nat) (c d : Chip) (hc : c.ok) (hd : d.ok) (w : World) (H : Pair w b c d) (ht : told0 c d = true) (hi : line0 c d = 5) :
    Calls Try.prog 26 #[.pointer (some ⟨b, 0, none⟩), .int .i64 0] w fun e w' => e = .returned (.int .i64 ((c.base : Int) + 5)) ∧ Pair w' b (takeC c 5) d ∧ Keeps (· = b) w w' := by
  have HT := Lib.hid ht
  have HI := Lib.hid hi
  have HD := Lib.hid hd
  have HC := Lib.hid hc
  have ha := hc.asks
  have hs := hc.served
  have hb := hc.base
  have e1 : bits .andNot .u8 (c.asks : Int) 32 = ((c.asks &&& 223 : Nat) : Int) := u8_andNot_nat c.asks 32 ha (by decide)
  have e5 : bits .or .u8 (c.served : Int) 32 = ((c.served ||| 32 : Nat) : Int) := u8_or_nat c.served 32 hs (by decide)
  clear ht hi hd hc
  cases hE : c.ends
  all_goals
    have HE := Lib.hid hE
    go_enter Try.func26, Try.ntmps26
    go_wp2_with fail
    refine (tells0_any b c d HC.out HD.out _ H).mono ?_
    rintro e w1 ⟨rfl, n, rfl⟩
    have hT : isTold (ask0 c d) c.masked c.served = true := HT.out
    have hI : tz8 (left (ask0 c d) c.masked) = 5 := HI.out
    rw [hT, hI]
    clear hT hI
    obtain ⟨k0, k1, k2, k3, k4, k5, k6, k7, k8, k9, -, -, -, -, -, -, -, -, -, -, kf, klt⟩ := Pair.facts (w := w) H
    go_wp2_with fail
    go_region
    go_wp2_with fail
    try go_region
    all_goals
      go_wp2_with fail
      go_ret
      refine ⟨rfl, ?_, by (repeat' (first | (with_reducible exact Keeps.refl _ _) | (with_reducible assumption) | (with_reducible refine Keeps.setOne ?_ _ _) | (with_reducible refine Keeps.alloc ?_ _) | (with_reducible refine Keeps.drew ?_) | (with_reducible refine Keeps.drewN ?_ _)))⟩
      have hT : takeC c 5 = Chip.mk (c.asks &&& 223) (servedC c 5) c.masked c.up c.base c.told c.ends c.stage c.second c.last := rfl
      first
        | (have hS : servedC c 5 = c.served := by (unfold servedC; rw [hE]; rfl)
           rw [hT, hS])
        | (have hS : servedC c 5 = c.served ||| 32 := by (unfold servedC; rw [hE]; rfl)
           rw [hT, hS])
      unfold Pair Chip.cells at H ⊢
      simp only [List.cons_append, List.nil_append] at H ⊢
      (first | (simp only [heap_set_map, putObj_cells, H, Option.map_some, List.set_cons_succ, List.set_cons_zero, heap_drewN, heap_drew]; done) | (simp only [heap_set_map, putObj_cells, H, Option.map_some, List.set_cons_succ, List.set_cons_zero, heap_drewN, heap_drew]; rfl))

set_option maxHeartbeats 1000000 in
theorem take0_6 (b : Nat) (c d : Chip) (hc : c.ok) (hd : d.ok) (w : World) (H : Pair w b c d) (ht : told0 c d = true) (hi : line0 c d = 6) :
    Calls Try.prog 26 #[.pointer (some ⟨b, 0, none⟩), .int .i64 0] w fun e w' => e = .returned (.int .i64 ((c.base : Int) + 6)) ∧ Pair w' b (takeC c 6) d ∧ Keeps (· = b) w w' := by
  have HT := Lib.hid ht
  have HI := Lib.hid hi
  have HD := Lib.hid hd
  have HC := Lib.hid hc
  have ha := hc.asks
  have hs := hc.served
  have hb := hc.base
  have e1 : bits .andNot .u8 (c.asks : Int) 64 = ((c.asks &&& 191 : Nat) : Int) := u8_andNot_nat c.asks 64 ha (by decide)
  have e5 : bits .or .u8 (c.served : Int) 64 = ((c.served ||| 64 : Nat) : Int) := u8_or_nat c.served 64 hs (by decide)
  clear ht hi hd hc
  cases hE : c.ends
  all_goals
    have HE := Lib.hid hE
    go_enter Try.func26, Try.ntmps26
    go_wp2_with fail
    refine (tells0_any b c d HC.out HD.out _ H).mono ?_
    rintro e w1 ⟨rfl, n, rfl⟩
    have hT : isTold (ask0 c d) c.masked c.served = true := HT.out
    have hI : tz8 (left (ask0 c d) c.masked) = 6 := HI.out
    rw [hT, hI]
    clear hT hI
    obtain ⟨k0, k1, k2, k3, k4, k5, k6, k7, k8, k9, -, -, -, -, -, -, -, -, -, -, kf, klt⟩ := Pair.facts (w := w) H
    go_wp2_with fail
    go_region
    go_wp2_with fail
    try go_region
    all_goals
      go_wp2_with fail
      go_ret
      refine ⟨rfl, ?_, by (repeat' (first | (with_reducible exact Keeps.refl _ _) | (with_reducible assumption) | (with_reducible refine Keeps.setOne ?_ _ _) | (with_reducible refine Keeps.alloc ?_ _) | (with_reducible refine Keeps.drew ?_) | (with_reducible refine Keeps.drewN ?_ _)))⟩
      have hT : takeC c 6 = Chip.mk (c.asks &&& 191) (servedC c 6) c.masked c.up c.base c.told c.ends c.stage c.second c.last := rfl
      first
        | (have hS : servedC c 6 = c.served := by (unfold servedC; rw [hE]; rfl)
           rw [hT, hS])
        | (have hS : servedC c 6 = c.served ||| 64 := by (unfold servedC; rw [hE]; rfl)
           rw [hT, hS])
      unfold Pair Chip.cells at H ⊢
      simp only [List.cons_append, List.nil_append] at H ⊢
      (first | (simp only [heap_set_map, putObj_cells, H, Option.map_some, List.set_cons_succ, List.set_cons_zero, heap_drewN, heap_drew]; done) | (simp only [heap_set_map, putObj_cells, H, Option.map_some, List.set_cons_succ, List.set_cons_zero, heap_drewN, heap_drew]; rfl))

set_option maxHeartbeats 1000000 in
theorem take0_7 (b : Nat) (c d : Chip) (hc : c.ok) (hd : d.ok) (w : World) (H : Pair w b c d) (ht : told0 c d = true) (hi : line0 c d = 7) :
    Calls Try.prog 26 #[.pointer (some ⟨b, 0, none⟩), .int .i64 0] w fun e w' => e = .returned (.int .i64 ((c.base : Int) + 7)) ∧ Pair w' b (takeC c 7) d ∧ Keeps (· = b) w w' := by
  have HT := Lib.hid ht
  have HI := Lib.hid hi
  have HD := Lib.hid hd
  have HC := Lib.hid hc
  have ha := hc.asks
  have hs := hc.served
  have hb := hc.base
  have e1 : bits .andNot .u8 (c.asks : Int) 128 = ((c.asks &&& 127 : Nat) : Int) := u8_andNot_nat c.asks 128 ha (by decide)
  have e5 : bits .or .u8 (c.served : Int) 128 = ((c.served ||| 128 : Nat) : Int) := u8_or_nat c.served 128 hs (by decide)
  clear ht hi hd hc
  cases hE : c.ends
  all_goals
    have HE := Lib.hid hE
    go_enter Try.func26, Try.ntmps26
    go_wp2_with fail
    refine (tells0_any b c d HC.out HD.out _ H).mono ?_
    rintro e w1 ⟨rfl, n, rfl⟩
    have hT : isTold (ask0 c d) c.masked c.served = true := HT.out
    have hI : tz8 (left (ask0 c d) c.masked) = 7 := HI.out
    rw [hT, hI]
    clear hT hI
    obtain ⟨k0, k1, k2, k3, k4, k5, k6, k7, k8, k9, -, -, -, -, -, -, -, -, -, -, kf, klt⟩ := Pair.facts (w := w) H
    go_wp2_with fail
    go_region
    go_wp2_with fail
    try go_region
    all_goals
      go_wp2_with fail
      go_ret
      refine ⟨rfl, ?_, by (repeat' (first | (with_reducible exact Keeps.refl _ _) | (with_reducible assumption) | (with_reducible refine Keeps.setOne ?_ _ _) | (with_reducible refine Keeps.alloc ?_ _) | (with_reducible refine Keeps.drew ?_) | (with_reducible refine Keeps.drewN ?_ _)))⟩
      have hT : takeC c 7 = Chip.mk (c.asks &&& 127) (servedC c 7) c.masked c.up c.base c.told c.ends c.stage c.second c.last := rfl
      first
        | (have hS : servedC c 7 = c.served := by (unfold servedC; rw [hE]; rfl)
           rw [hT, hS])
        | (have hS : servedC c 7 = c.served ||| 128 := by (unfold servedC; rw [hE]; rfl)
           rw [hT, hS])
      unfold Pair Chip.cells at H ⊢
      simp only [List.cons_append, List.nil_append] at H ⊢
      (first | (simp only [heap_set_map, putObj_cells, H, Option.map_some, List.set_cons_succ, List.set_cons_zero, heap_drewN, heap_drew]; done) | (simp only [heap_set_map, putObj_cells, H, Option.map_some, List.set_cons_succ, List.set_cons_zero, heap_drewN, heap_drew]; rfl))

theorem take0_any (b : Nat) (c d : Chip) (hc : c.ok) (hd : d.ok) (w : World) (H : Pair w b c d) :
    Calls Try.prog 26 #[.pointer (some ⟨b, 0, none⟩), .int .i64 0] w fun e w' => e = .returned (.int .i64 (vec0 c d)) ∧ Pair w' b (tkc c d) (tkd c d) ∧ Keeps (· = b) w w' := by
  cases ht : told0 c d
  · refine (take0_no b c d hc hd w H ht).mono ?_
    rintro e w1 ⟨rfl, n, rfl⟩
    unfold vec0 tkc tkd
    rw [ht]
    exact ⟨rfl, H, (Keeps.refl _ _).drewN _⟩
  · have hl := line0_lt hc ht
    have key : ∀ i, line0 c d = i → i < 8 → Calls Try.prog 26 #[.pointer (some ⟨b, 0, none⟩), .int .i64 0] w fun e w' => e = .returned (.int .i64 ((if i = 2 then vec1 d else c.base + i : Nat) : Int)) ∧ Pair w' b (takeC c i) (if i = 2 then tk1 d else d) ∧ Keeps (· = b) w w' := by
      intro i hi h8
      obtain rfl | rfl | rfl | rfl | rfl | rfl | rfl | rfl : i = 0 ∨ i = 1 ∨ i = 2 ∨ i = 3 ∨ i = 4 ∨ i = 5 ∨ i = 6 ∨ i = 7 := by omega
      · exact take0_0 b c d hc hd w H ht hi
      · exact take0_1 b c d hc hd w H ht hi
      · exact take0_2 b c d hc hd w H ht hi
      · exact take0_3 b c d hc hd w H ht hi
      · exact take0_4 b c d hc hd w H ht hi
      · exact take0_5 b c d hc hd w H ht hi
      · exact take0_6 b c d hc hd w H ht hi
      · exact take0_7 b c d hc hd w H ht hi
    refine (key _ rfl hl).mono ?_
    rintro e w1 ⟨rfl, h1, h2⟩
    unfold vec0 tkc tkd
    rw [ht]
    exact ⟨rfl, h1, h2⟩

theorem ack_any (b : Nat) (c d : Chip) (hc : c.ok) (hd : d.ok) (w : World) (H : Pair w b c d) :
    Calls Try.prog 13 #[.pointer (some ⟨b, 0, none⟩)] w fun e w' => e = .returned (.int .i64 (vec0 c d)) ∧ Pair w' b (tkc c d) (tkd c d) ∧ Keeps (· = b) w w' := by
  go_enter Try.func13, Try.ntmps13
  go_wp2_with fail
  refine (take0_any b c d hc hd _ H).mono ?_
  rintro e w1 ⟨rfl, h1, h2⟩
  go_wp2_with fail
  go_ret
  exact ⟨rfl, h1, h2⟩
theorem ack_nil (w : World) : Calls Try.prog 13 #[.pointer none] w fun e w' => e = .returned (.int .i64 0) ∧ w = w' := by
  go_enter Try.func13, Try.ntmps13
  go_wp2_with fail
  go_ret
  exact ⟨rfl, rfl⟩

/-- A line's number is one of those that a pair has. -/
def lineGood (n : Int) : Bool := decide (0 ≤ n) && decide (n ≤ 15)
def lnc (c : Chip) (n : Int) (up : Bool) : Chip := if 0 ≤ n ∧ n ≤ 7 ∧ n ≠ 2 then lineC c n.toNat up else c
def lnd (d : Chip) (n : Int) (up : Bool) : Chip := if 8 ≤ n ∧ n ≤ 15 then lineC d (n.toNat - 8) up else d
theorem lnc_ok {c : Chip} (h : c.ok) (n : Int) (up : Bool) : (lnc c n up).ok := by
  unfold lnc
  split
  · exact lineC_ok h _ (by omega) up
  · exact h
theorem lnd_ok {c : Chip} (h : c.ok) (n : Int) (up : Bool) : (lnd c n up).ok := by
  unfold lnd
  split
  · exact lineC_ok h _ (by omega) up
  · exact h
theorem line_any (b : Nat) (c d : Chip) (hc : c.ok) (hd : d.ok) (n : Int) (up : Bool) (w : World) (H : Pair w b c d) :
    Calls Try.prog 11 #[.pointer (some ⟨b, 0, none⟩), .int .i64 n, .bool up] w fun e w' => e = .returned (.int .i64 (if lineGood n then 0 else 1)) ∧ Pair w' b (lnc c n up) (lnd d n up) ∧ Keeps (· = b) w w' := by
  by_cases hn : 0 ≤ n ∧ n ≤ 15
  · obtain rfl | rfl | rfl | rfl | rfl | rfl | rfl | rfl | rfl | rfl | rfl | rfl | rfl | rfl | rfl | rfl : n = 0 ∨ n = 1 ∨ n = 2 ∨ n = 3 ∨ n = 4 ∨ n = 5 ∨ n = 6 ∨ n = 7 ∨ n = 8 ∨ n = 9 ∨ n = 10 ∨ n = 11 ∨ n = 12 ∨ n = 13 ∨ n = 14 ∨ n = 15 := by omega
    · exact line_0 b c d hc hd up w H
    · exact line_1 b c d hc hd up w H
    · exact line_two b c d up w H
    · exact line_3 b c d hc hd up w H
    · exact line_4 b c d hc hd up w H
    · exact line_5 b c d hc hd up w H
    · exact line_6 b c d hc hd up w H
    · exact line_7 b c d hc hd up w H
    · exact line_8 b c d hc hd up w H
    · exact line_9 b c d hc hd up w H
    · exact line_10 b c d hc hd up w H
    · exact line_11 b c d hc hd up w H
    · exact line_12 b c d hc hd up w H
    · exact line_13 b c d hc hd up w H
    · exact line_14 b c d hc hd up w H
    · exact line_15 b c d hc hd up w H
  · have h0 : lineGood n = false := by
      unfold lineGood
      rw [← Bool.decide_and]
      exact decide_eq_false hn
    refine (line_bad b n up w (by omega)).mono ?_
    rintro e w1 ⟨rfl, rfl⟩
    have u1 : lnc c n up = c := if_neg (by omega)
    have u2 : lnd d n up = d := if_neg (by omega)
    rw [h0, u1, u2]
    exact ⟨rfl, H, Keeps.refl _ _⟩
end Go.Proofs.Ytfijohgbgadhiaa
