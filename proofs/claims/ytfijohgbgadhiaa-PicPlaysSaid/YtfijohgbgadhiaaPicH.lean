/- pic: In; New. -/
import Derived.Test.YtfijohgbgadhiaaPicG
namespace Go.Proofs.Ytfijohgbgadhiaa
open Go.RowKit
set_option linter.unusedVariables false
set_option linter.unusedSimpArgs false

/-- What is read at a chip's ports. -/
def inv0 (c : Chip) (a : Nat) : Nat := if c.told then c.served else a

set_option maxHeartbeats 1000000 in
theorem in1_0 (b ko kp kn : Nat) (T T1 T2 : Nat) (c d : Chip) (hc : c.ok) (hd : d.ok) (w : World) (H : Pair w b c d) (hko : w.heap[ko]? = some (.cells #[.int .u8 0] T)) (hkp : w.heap[kp]? = some (.cells #[.pointer (some ⟨b, 0, none⟩)] T1)) (hkn : w.heap[kn]? = some (.cells #[.int .i64 0] T2)) (n1 : b ≠ ko) (n2 : kp ≠ ko) (n3 : kn ≠ ko) :
    Calls Try.prog 29 #[.pointer (some ⟨b, 0, none⟩), .bool true, .pointer (some ⟨ko, 0, none⟩), .pointer (some ⟨kp, 0, none⟩), .pointer (some ⟨kn, 0, none⟩)] w fun r w' => r = .returned (.tuple #[]) ∧ w'.heap[ko]? = some (.cells #[.int .u8 (inv0 c (ask0 c d) : Nat)] T) ∧ Keeps (· = ko) w w' := by
  obtain ⟨k0, k1, k2, k3, k4, k5, k6, k7, k8, k9, k10, k11, k12, k13, k14, k15, k16, k17, k18, k19, kf, klt⟩ := H.facts
  have c0 : w.cell? ⟨ko, 0, none⟩ = some (.int .u8 0) := by rw [cell_at hko]; rfl
  have c1 : w.cell? ⟨kp, 0, none⟩ = some (.pointer (some ⟨b, 0, none⟩)) := by rw [cell_at hkp]; rfl
  have c2 : w.cell? ⟨kn, 0, none⟩ = some (.int .i64 0) := by rw [cell_at hkn]; rfl
  have f0 : ∀ k, w.frozen? ⟨ko, k, none⟩ = false := fun k => free_at hko
  have HC := Lib.hid hc
  have HD := Lib.hid hd
  clear hc hd
  cases ht : c.told
  all_goals
    have HT := Lib.hid ht
    go_enter Try.func29, Try.ntmps29
    go_wp2_with fail
    try
      refine (asking0_any b c d HC.out HD.out w H).mono ?_
      rintro r w1 ⟨rfl, n, rfl⟩
      go_wp2_with fail
    go_returns
    refine ⟨rfl, ?_, by (repeat' (first | (with_reducible exact Keeps.refl _ _) | (with_reducible exact hk) | (with_reducible refine Keeps.setOne ?_ _ _) | (with_reducible refine Keeps.alloc ?_ _) | (with_reducible refine Keeps.drew ?_) | (with_reducible refine Keeps.drewN ?_ _)))⟩
    try unfold inv0
    (first | (simp only [heap_set_map, putObj_cells, hko, Option.map_some, List.set_cons_succ, List.set_cons_zero, heap_drewN, heap_drew]; done) | (simp only [heap_set_map, putObj_cells, hko, Option.map_some, List.set_cons_succ, List.set_cons_zero, heap_drewN, heap_drew]; rfl) | (simp only [heap_set_map, putObj_cells, hko, Option.map_some, List.set_cons_succ, List.set_cons_zero, heap_drewN, heap_drew, ht]; rfl))

set_option maxHeartbeats 1000000 in
theorem with_in_0 (b ko kp kn : Nat) (T T1 T2 : Nat) (c d : Chip) (hc : c.ok) (hd : d.ok) (w : World) (H : Pair w b c d) (hko : w.heap[ko]? = some (.cells #[.int .u8 0] T)) (hkp : w.heap[kp]? = some (.cells #[.pointer (some ⟨b, 0, none⟩)] T1)) (hkn : w.heap[kn]? = some (.cells #[.int .i64 0] T2)) (n1 : b ≠ ko) (n2 : kp ≠ ko) (n3 : kn ≠ ko) :
    Calls Try.prog 22 #[.pointer (some ⟨b, 0, none⟩), .int .i64 0, .func (.func 29) #[] #[.pointer (some ⟨ko, 0, none⟩), .pointer (some ⟨kp, 0, none⟩), .pointer (some ⟨kn, 0, none⟩)]] w fun r w' => r = .returned (.int .i64 0) ∧ w'.heap[ko]? = some (.cells #[.int .u8 (inv0 c (ask0 c d) : Nat)] T) ∧ Keeps (· = ko) w w' := by
  have hcf := cfIn
  have hx := in1_0 b ko kp kn T T1 T2 c d hc hd w H hko hkp hkn n1 n2 n3
  have HX := Lib.hid hx
  clear hx
  go_enter Try.func22, Try.ntmps22
  go_wp2_with fail
  refine HX.out.mono ?_
  rintro r w1 ⟨rfl, H1, hk⟩
  go_wp2_with fail
  go_returns
  exact ⟨rfl, H1, hk⟩

set_option maxHeartbeats 1000000 in
theorem in1_1 (b ko kp kn : Nat) (T T1 T2 : Nat) (c d : Chip) (hc : c.ok) (hd : d.ok) (w : World) (H : Pair w b c d) (hko : w.heap[ko]? = some (.cells #[.int .u8 0] T)) (hkp : w.heap[kp]? = some (.cells #[.pointer (some ⟨b, 0, none⟩)] T1)) (hkn : w.heap[kn]? = some (.cells #[.int .i64 1] T2)) (n1 : b ≠ ko) (n2 : kp ≠ ko) (n3 : kn ≠ ko) :
    Calls Try.prog 29 #[.pointer (some ⟨b, 0, none⟩), .bool false, .pointer (some ⟨ko, 0, none⟩), .pointer (some ⟨kp, 0, none⟩), .pointer (some ⟨kn, 0, none⟩)] w fun r w' => r = .returned (.tuple #[]) ∧ w'.heap[ko]? = some (.cells #[.int .u8 (c.masked : Nat)] T) ∧ Keeps (· = ko) w w' := by
  obtain ⟨k0, k1, k2, k3, k4, k5, k6, k7, k8, k9, k10, k11, k12, k13, k14, k15, k16, k17, k18, k19, kf, klt⟩ := H.facts
  have c0 : w.cell? ⟨ko, 0, none⟩ = some (.int .u8 0) := by rw [cell_at hko]; rfl
  have c1 : w.cell? ⟨kp, 0, none⟩ = some (.pointer (some ⟨b, 0, none⟩)) := by rw [cell_at hkp]; rfl
  have c2 : w.cell? ⟨kn, 0, none⟩ = some (.int .i64 1) := by rw [cell_at hkn]; rfl
  have f0 : ∀ k, w.frozen? ⟨ko, k, none⟩ = false := fun k => free_at hko
  have HC := Lib.hid hc
  have HD := Lib.hid hd
  clear hc hd
  cases ht : c.told
  all_goals
    have HT := Lib.hid ht
    go_enter Try.func29, Try.ntmps29
    go_wp2_with fail
    go_returns
    refine ⟨rfl, ?_, by (repeat' (first | (with_reducible exact Keeps.refl _ _) | (with_reducible exact hk) | (with_reducible refine Keeps.setOne ?_ _ _) | (with_reducible refine Keeps.alloc ?_ _) | (with_reducible refine Keeps.drew ?_) | (with_reducible refine Keeps.drewN ?_ _)))⟩
    try unfold inv0
    (first | (simp only [heap_set_map, putObj_cells, hko, Option.map_some, List.set_cons_succ, List.set_cons_zero, heap_drewN, heap_drew]; done) | (simp only [heap_set_map, putObj_cells, hko, Option.map_some, List.set_cons_succ, List.set_cons_zero, heap_drewN, heap_drew]; rfl) | (simp only [heap_set_map, putObj_cells, hko, Option.map_some, List.set_cons_succ, List.set_cons_zero, heap_drewN, heap_drew, ht]; rfl))

set_option maxHeartbeats 1000000 in
theorem with_in_1 (b ko kp kn : Nat) (T T1 T2 : Nat) (c d : Chip) (hc : c.ok) (hd : d.ok) (w : World) (H : Pair w b c d) (hko : w.heap[ko]? = some (.cells #[.int .u8 0] T)) (hkp : w.heap[kp]? = some (.cells #[.pointer (some ⟨b, 0, none⟩)] T1)) (hkn : w.heap[kn]? = some (.cells #[.int .i64 1] T2)) (n1 : b ≠ ko) (n2 : kp ≠ ko) (n3 : kn ≠ ko) :
    Calls Try.prog 22 #[.pointer (some ⟨b, 0, none⟩), .int .i64 1, .func (.func 29) #[] #[.pointer (some ⟨ko, 0, none⟩), .pointer (some ⟨kp, 0, none⟩), .pointer (some ⟨kn, 0, none⟩)]] w fun r w' => r = .returned (.int .i64 0) ∧ w'.heap[ko]? = some (.cells #[.int .u8 (c.masked : Nat)] T) ∧ Keeps (· = ko) w w' := by
  have hcf := cfIn
  have hx := in1_1 b ko kp kn T T1 T2 c d hc hd w H hko hkp hkn n1 n2 n3
  have HX := Lib.hid hx
  clear hx
  go_enter Try.func22, Try.ntmps22
  go_wp2_with fail
  refine HX.out.mono ?_
  rintro r w1 ⟨rfl, H1, hk⟩
  go_wp2_with fail
  go_returns
  exact ⟨rfl, H1, hk⟩

set_option maxHeartbeats 1000000 in
theorem in1_2 (b ko kp kn : Nat) (T T1 T2 : Nat) (c d : Chip) (hc : c.ok) (hd : d.ok) (w : World) (H : Pair w b c d) (hko : w.heap[ko]? = some (.cells #[.int .u8 0] T)) (hkp : w.heap[kp]? = some (.cells #[.pointer (some ⟨b, 0, none⟩)] T1)) (hkn : w.heap[kn]? = some (.cells #[.int .i64 2] T2)) (n1 : b ≠ ko) (n2 : kp ≠ ko) (n3 : kn ≠ ko) :
    Calls Try.prog 29 #[.pointer (some ⟨b, 10, none⟩), .bool true, .pointer (some ⟨ko, 0, none⟩), .pointer (some ⟨kp, 0, none⟩), .pointer (some ⟨kn, 0, none⟩)] w fun r w' => r = .returned (.tuple #[]) ∧ w'.heap[ko]? = some (.cells #[.int .u8 (inv0 d d.asks : Nat)] T) ∧ Keeps (· = ko) w w' := by
  obtain ⟨k0, k1, k2, k3, k4, k5, k6, k7, k8, k9, k10, k11, k12, k13, k14, k15, k16, k17, k18, k19, kf, klt⟩ := H.facts
  have c0 : w.cell? ⟨ko, 0, none⟩ = some (.int .u8 0) := by rw [cell_at hko]; rfl
  have c1 : w.cell? ⟨kp, 0, none⟩ = some (.pointer (some ⟨b, 0, none⟩)) := by rw [cell_at hkp]; rfl
  have c2 : w.cell? ⟨kn, 0, none⟩ = some (.int .i64 2) := by rw [cell_at hkn]; rfl
  have f0 : ∀ k, w.frozen? ⟨ko, k, none⟩ = false := fun k => free_at hko
  have HC := Lib.hid hc
  have HD := Lib.hid hd
  clear hc hd
  cases ht : d.told
  all_goals
    have HT := Lib.hid ht
    go_enter Try.func29, Try.ntmps29
    go_wp2_with fail
    try
      refine (asking1_any b c d w H).mono ?_
      rintro r w1 ⟨rfl, rfl⟩
      go_wp2_with fail
    go_returns
    refine ⟨rfl, ?_, by (repeat' (first | (with_reducible exact Keeps.refl _ _) | (with_reducible exact hk) | (with_reducible refine Keeps.setOne ?_ _ _) | (with_reducible refine Keeps.alloc ?_ _) | (with_reducible refine Keeps.drew ?_) | (with_reducible refine Keeps.drewN ?_ _)))⟩
    try unfold inv0
    (first | (simp only [heap_set_map, putObj_cells, hko, Option.map_some, List.set_cons_succ, List.set_cons_zero, heap_drewN, heap_drew]; done) | (simp only [heap_set_map, putObj_cells, hko, Option.map_some, List.set_cons_succ, List.set_cons_zero, heap_drewN, heap_drew]; rfl) | (simp only [heap_set_map, putObj_cells, hko, Option.map_some, List.set_cons_succ, List.set_cons_zero, heap_drewN, heap_drew, ht]; rfl))

set_option maxHeartbeats 1000000 in
theorem with_in_2 (b ko kp kn : Nat) (T T1 T2 : Nat) (c d : Chip) (hc : c.ok) (hd : d.ok) (w : World) (H : Pair w b c d) (hko : w.heap[ko]? = some (.cells #[.int .u8 0] T)) (hkp : w.heap[kp]? = some (.cells #[.pointer (some ⟨b, 0, none⟩)] T1)) (hkn : w.heap[kn]? = some (.cells #[.int .i64 2] T2)) (n1 : b ≠ ko) (n2 : kp ≠ ko) (n3 : kn ≠ ko) :
    Calls Try.prog 22 #[.pointer (some ⟨b, 0, none⟩), .int .i64 2, .func (.func 29) #[] #[.pointer (some ⟨ko, 0, none⟩), .pointer (some ⟨kp, 0, none⟩), .pointer (some ⟨kn, 0, none⟩)]] w fun r w' => r = .returned (.int .i64 0) ∧ w'.heap[ko]? = some (.cells #[.int .u8 (inv0 d d.asks : Nat)] T) ∧ Keeps (· = ko) w w' := by
  have hcf := cfIn
  have hx := in1_2 b ko kp kn T T1 T2 c d hc hd w H hko hkp hkn n1 n2 n3
  have HX := Lib.hid hx
  clear hx
  go_enter Try.func22, Try.ntmps22
  go_wp2_with fail
  refine HX.out.mono ?_
  rintro r w1 ⟨rfl, H1, hk⟩
  go_wp2_with fail
  go_returns
  exact ⟨rfl, H1, hk⟩

set_option maxHeartbeats 1000000 in
theorem in1_3 (b ko kp kn : Nat) (T T1 T2 : Nat) (c d : Chip) (hc : c.ok) (hd : d.ok) (w : World) (H : Pair w b c d) (hko : w.heap[ko]? = some (.cells #[.int .u8 0] T)) (hkp : w.heap[kp]? = some (.cells #[.pointer (some ⟨b, 0, none⟩)] T1)) (hkn : w.heap[kn]? = some (.cells #[.int .i64 3] T2)) (n1 : b ≠ ko) (n2 : kp ≠ ko) (n3 : kn ≠ ko) :
    Calls Try.prog 29 #[.pointer (some ⟨b, 10, none⟩), .bool false, .pointer (some ⟨ko, 0, none⟩), .pointer (some ⟨kp, 0, none⟩), .pointer (some ⟨kn, 0, none⟩)] w fun r w' => r = .returned (.tuple #[]) ∧ w'.heap[ko]? = some (.cells #[.int .u8 (d.masked : Nat)] T) ∧ Keeps (· = ko) w w' := by
  obtain ⟨k0, k1, k2, k3, k4, k5, k6, k7, k8, k9, k10, k11, k12, k13, k14, k15, k16, k17, k18, k19, kf, klt⟩ := H.facts
  have c0 : w.cell? ⟨ko, 0, none⟩ = some (.int .u8 0) := by rw [cell_at hko]; rfl
  have c1 : w.cell? ⟨kp, 0, none⟩ = some (.pointer (some ⟨b, 0, none⟩)) := by rw [cell_at hkp]; rfl
  have c2 : w.cell? ⟨kn, 0, none⟩ = some (.int .i64 3) := by rw [cell_at hkn]; rfl
  have f0 : ∀ k, w.frozen? ⟨ko, k, none⟩ = false := fun k => free_at hko
  have HC := Lib.hid hc
  have HD := Lib.hid hd
  clear hc hd
  cases ht : d.told
  all_goals
    have HT := Lib.hid ht
    go_enter Try.func29, Try.ntmps29
    go_wp2_with fail
    go_returns
    refine ⟨rfl, ?_, by (repeat' (first | (with_reducible exact Keeps.refl _ _) | (with_reducible exact hk) | (with_reducible refine Keeps.setOne ?_ _ _) | (with_reducible refine Keeps.alloc ?_ _) | (with_reducible refine Keeps.drew ?_) | (with_reducible refine Keeps.drewN ?_ _)))⟩
    try unfold inv0
    (first | (simp only [heap_set_map, putObj_cells, hko, Option.map_some, List.set_cons_succ, List.set_cons_zero, heap_drewN, heap_drew]; done) | (simp only [heap_set_map, putObj_cells, hko, Option.map_some, List.set_cons_succ, List.set_cons_zero, heap_drewN, heap_drew]; rfl) | (simp only [heap_set_map, putObj_cells, hko, Option.map_some, List.set_cons_succ, List.set_cons_zero, heap_drewN, heap_drew, ht]; rfl))

set_option maxHeartbeats 1000000 in
theorem with_in_3 (b ko kp kn : Nat) (T T1 T2 : Nat) (c d : Chip) (hc : c.ok) (hd : d.ok) (w : World) (H : Pair w b c d) (hko : w.heap[ko]? = some (.cells #[.int .u8 0] T)) (hkp : w.heap[kp]? = some (.cells #[.pointer (some ⟨b, 0, none⟩)] T1)) (hkn : w.heap[kn]? = some (.cells #[.int .i64 3] T2)) (n1 : b ≠ ko) (n2 : kp ≠ ko) (n3 : kn ≠ ko) :
    Calls Try.prog 22 #[.pointer (some ⟨b, 0, none⟩), .int .i64 3, .func (.func 29) #[] #[.pointer (some ⟨ko, 0, none⟩), .pointer (some ⟨kp, 0, none⟩), .pointer (some ⟨kn, 0, none⟩)]] w fun r w' => r = .returned (.int .i64 0) ∧ w'.heap[ko]? = some (.cells #[.int .u8 (d.masked : Nat)] T) ∧ Keeps (· = ko) w w' := by
  have hcf := cfIn
  have hx := in1_3 b ko kp kn T T1 T2 c d hc hd w H hko hkp hkn n1 n2 n3
  have HX := Lib.hid hx
  clear hx
  go_enter Try.func22, Try.ntmps22
  go_wp2_with fail
  refine HX.out.mono ?_
  rintro r w1 ⟨rfl, H1, hk⟩
  go_wp2_with fail
  go_returns
  exact ⟨rfl, H1, hk⟩

/-- What is read at a port. -/
def inv (c d : Chip) (n : Int) : Nat := if n = 0 then inv0 c (ask0 c d) else if n = 1 then c.masked else if n = 2 then inv0 d d.asks else if n = 3 then d.masked else 0
theorem with_in (b ko kp kn : Nat) (T T1 T2 : Nat) (c d : Chip) (hc : c.ok) (hd : d.ok) (n : Int) (w : World) (H : Pair w b c d) (hko : w.heap[ko]? = some (.cells #[.int .u8 0] T)) (hkp : w.heap[kp]? = some (.cells #[.pointer (some ⟨b, 0, none⟩)] T1)) (hkn : w.heap[kn]? = some (.cells #[.int .i64 n] T2)) (n1 : b ≠ ko) (n2 : kp ≠ ko) (n3 : kn ≠ ko) :
    Calls Try.prog 22 #[.pointer (some ⟨b, 0, none⟩), .int .i64 n, .func (.func 29) #[] #[.pointer (some ⟨ko, 0, none⟩), .pointer (some ⟨kp, 0, none⟩), .pointer (some ⟨kn, 0, none⟩)]] w fun r w' => r = .returned (.int .i64 (perr n)) ∧ w'.heap[ko]? = some (.cells #[.int .u8 (inv c d n : Nat)] T) ∧ Keeps (· = ko) w w' := by
  by_cases hn : 0 ≤ n ∧ n ≤ 3
  · obtain rfl | rfl | rfl | rfl : n = 0 ∨ n = 1 ∨ n = 2 ∨ n = 3 := by omega
    · exact with_in_0 b ko kp kn T T1 T2 c d hc hd w H hko hkp hkn n1 n2 n3
    · exact with_in_1 b ko kp kn T T1 T2 c d hc hd w H hko hkp hkn n1 n2 n3
    · exact with_in_2 b ko kp kn T T1 T2 c d hc hd w H hko hkp hkn n1 n2 n3
    · exact with_in_3 b ko kp kn T T1 T2 c d hc hd w H hko hkp hkn n1 n2 n3
  · have h0 : portGood n = false := by
      unfold portGood
      rw [← Bool.decide_and]
      exact decide_eq_false hn
    refine (with_bad b _ n (by omega) w).mono ?_
    rintro e w1 ⟨rfl, rfl⟩
    have u1 : inv c d n = 0 := by unfold inv; rw [if_neg (by omega), if_neg (by omega), if_neg (by omega), if_neg (by omega)]
    rw [perr_bad h0, u1]
    exact ⟨rfl, hko, Keeps.refl _ _⟩

set_option maxHeartbeats 1000000 in
theorem in_any (b : Nat) (c d : Chip) (hc : c.ok) (hd : d.ok) (n : Int) (w : World) (H : Pair w b c d) :
    Calls Try.prog 17 #[.pointer (some ⟨b, 0, none⟩), .int .i64 n] w fun r w' => r = .returned (.tuple #[.int .u8 (inv c d n : Nat), .int .i64 (perr n)]) ∧ Below w.heap.size w w' := by
  have hlt := heap_lt H
  go_enter Try.func17, Try.ntmps17
  go_wp2_with fail
  have g1 := heap_alloc_lt (o' := .cells #[.int .u8 0] 5) (heap_alloc_lt (o' := .cells #[.int .i64 n] 3) (heap_new w (.cells #[.pointer (some ⟨b, 0, none⟩)] 24)))
  have g2 := heap_alloc_lt (o' := .cells #[.int .u8 0] 5) (heap_new (w.alloc (.cells #[.pointer (some ⟨b, 0, none⟩)] 24)) (.cells #[.int .i64 n] 3))
  have g3 := heap_new ((w.alloc (.cells #[.pointer (some ⟨b, 0, none⟩)] 24)).alloc (.cells #[.int .i64 n] 3)) (.cells #[.int .u8 0] 5)
  simp only [World.size_alloc] at g2 g3
  refine (with_in b (w.heap.size + 1 + 1) w.heap.size (w.heap.size + 1) _ _ _ c d hc hd n _ (heap_alloc_lt (heap_alloc_lt (heap_alloc_lt H))) g3 g1 g2 (by omega) (by omega) (by omega)).mono ?_
  rintro r w1 ⟨rfl, hv, hk⟩
  have cv : w1.cell? ⟨w.heap.size + 1 + 1, 0, none⟩ = some (.int .u8 (inv c d n : Nat)) := by rw [cell_at hv]; rfl
  clear g1 g2 g3 hv
  go_wp2_with fail
  go_ret2
  exact ⟨rfl, Keeps.toBelow (by go_grown) hk (by simp only [World.size_alloc]; omega) (fun i hi => by omega)⟩
set_option maxHeartbeats 1000000 in
theorem in_nil (n : Int) (w : World) :
    Calls Try.prog 17 #[.pointer none, .int .i64 n] w fun r w' => r = .returned (.tuple #[.int .u8 0, .int .i64 1]) ∧ Below w.heap.size w w' := by
  go_enter Try.func17, Try.ntmps17
  go_wp2_with fail
  refine (with_nil _ n _).mono ?_
  rintro r w1 ⟨rfl, rfl⟩
  go_wp2_with fail
  go_ret2
  exact ⟨rfl, by go_grown⟩

/-- The answer of a call on a line. -/
def lerr (n : Int) : Int := if lineGood n then 0 else 1
theorem line_e (b : Nat) (c d : Chip) (hc : c.ok) (hd : d.ok) (n : Int) (up : Bool) (w : World) (H : Pair w b c d) :
    Calls Try.prog 11 #[.pointer (some ⟨b, 0, none⟩), .int .i64 n, .bool up] w fun e w' => e = .returned (.int .i64 (lerr n)) ∧ Pair w' b (lnc c n up) (lnd d n up) ∧ Keeps (· = b) w w' := line_any b c d hc hd n up w H

def chip0 : Chip := Chip.mk 0 0 0 0 0 false false 0 false false
theorem chip0_ok : chip0.ok := ⟨by decide, by decide, by decide, by decide, by decide, by decide⟩
set_option maxHeartbeats 1000000 in
theorem new_any (w : World) : Calls Try.prog 14 #[] w fun e w' => e = .returned (.pointer (some ⟨w.heap.size, 0, none⟩)) ∧ Pair w' w.heap.size chip0 chip0 ∧ Below w.heap.size w w' := by
  go_enter Try.func14, Try.ntmps14
  go_wp2_with fail
  go_returns
  exact ⟨rfl, heap_new w _, by go_grown⟩
end Go.Proofs.Ytfijohgbgadhiaa
