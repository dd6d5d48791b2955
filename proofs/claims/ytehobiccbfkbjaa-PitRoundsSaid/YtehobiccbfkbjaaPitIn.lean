/- pit: Out and In, of counter 0; calls on no timer, and on no port; New. -/
import Derived.Test.YtehobiccbfkbjaaPitOut
import Derived.Test.YtehobiccbfkbjaaBits
namespace Go.Proofs.Ytehobiccbfkbjaa
open Go.RowKit
set_option linter.unusedVariables false

theorem or_join_u64 (x f : Int) (x0 : 0 ≤ x) (x1 : x < 256) (f0 : 0 ≤ f) (f1 : f < 256) : bits BinOp.or IntKind.u64 (x * 256) f = x * 256 + f := by
  obtain ⟨a, rfl⟩ := Int.eq_ofNat_of_zero_le x0
  obtain ⟨b, rfl⟩ := Int.eq_ofNat_of_zero_le f0
  rw [u64_or _ _ (by omega) (by omega) (by omega) (by omega)]
  have e : ((a : Int) * 256).toNat = a * 256 := by omega
  rw [e, Int.toNat_natCast, nat_join 8 (a * 256) b (by omega) (by omega)]
  simp

set_option maxHeartbeats 1000000 in
theorem out_second (m : Int) (st : Bool) (l g : Int) (up : Bool) (f : Int) (hd : Bool) (v : Int) (rest : List Value) (b : Nat) (t : Int) (w : World) (H : C0 w b m 3 st l g true up f hd v rest) (x : Int) (x0 : 0 ≤ x) (x1 : x < 256) (f0 : 0 ≤ f) (f1 : f < 256) (hz : 0 < x * 256 + f) :
    Calls Try.prog 10 #[.pointer (some ⟨b, 0, none⟩), .int .i64 0, .int .u8 x, .int .u64 t] w fun e w' => e = .returned (.int .i64 0) ∧ C0 w' b m 3 false (x * 256 + f) t false up f hd v rest ∧ Keeps (· = b) w w' := by
  obtain ⟨k0, k1, k2, k3, k4, k5, k6, k7, k8, k9, kf, klt⟩ := H.facts
  have e1 := or_join_u64 x f x0 x1 f0 f1
  have e2 : (x * 256 + f == 0) = false := by simp; omega
  go_enter Try.func10, Try.ntmps10
  go_wp2_with fail
  all_goals
    go_ret
    exact ⟨rfl, by (unfold C0 at H ⊢; simp only [heap_set_map, putObj_cells, H, Option.map_some, List.set_cons_succ, List.set_cons_zero]), by (repeat' (first | (with_reducible exact Keeps.refl _ _) | (with_reducible assumption) | (with_reducible refine Keeps.setOne ?_ _ _) | (with_reducible refine Keeps.alloc ?_ _) | (with_reducible refine Keeps.drew ?_)))⟩

set_option maxHeartbeats 1000000 in
theorem out_second0 (m : Int) (st : Bool) (l g : Int) (up : Bool) (hd : Bool) (v : Int) (rest : List Value) (b : Nat) (t : Int) (w : World) (H : C0 w b m 3 st l g true up 0 hd v rest)   :
    Calls Try.prog 10 #[.pointer (some ⟨b, 0, none⟩), .int .i64 0, .int .u8 0, .int .u64 t] w fun e w' => e = .returned (.int .i64 0) ∧ C0 w' b m 3 false 65536 t false up 0 hd v rest ∧ Keeps (· = b) w w' := by
  obtain ⟨k0, k1, k2, k3, k4, k5, k6, k7, k8, k9, kf, klt⟩ := H.facts
  have e1 : bits BinOp.or IntKind.u64 0 0 = 0 := by decide
  go_enter Try.func10, Try.ntmps10
  go_wp2_with fail
  all_goals
    go_ret
    exact ⟨rfl, by (unfold C0 at H ⊢; simp only [heap_set_map, putObj_cells, H, Option.map_some, List.set_cons_succ, List.set_cons_zero]), by (repeat' (first | (with_reducible exact Keeps.refl _ _) | (with_reducible assumption) | (with_reducible refine Keeps.setOne ?_ _ _) | (with_reducible refine Keeps.alloc ?_ _) | (with_reducible refine Keeps.drew ?_)))⟩

set_option maxHeartbeats 1000000 in
theorem out_one (m : Int) (st : Bool) (l g : Int) (up : Bool) (f : Int) (hd : Bool) (v : Int) (rest : List Value) (b : Nat) (t : Int) (w : World) (H : C0 w b m 1 st l g false up f hd v rest) (x : Int) (x0 : 0 ≤ x) (x1 : x < 256) (hz : 0 < x) :
    Calls Try.prog 10 #[.pointer (some ⟨b, 0, none⟩), .int .i64 0, .int .u8 x, .int .u64 t] w fun e w' => e = .returned (.int .i64 0) ∧ C0 w' b m 1 false x t false up f hd v rest ∧ Keeps (· = b) w w' := by
  obtain ⟨k0, k1, k2, k3, k4, k5, k6, k7, k8, k9, kf, klt⟩ := H.facts
  have e2 : (x == 0) = false := by simp; omega
  go_enter Try.func10, Try.ntmps10
  go_wp2_with fail
  all_goals
    go_ret
    exact ⟨rfl, by (unfold C0 at H ⊢; simp only [heap_set_map, putObj_cells, H, Option.map_some, List.set_cons_succ, List.set_cons_zero]), by (repeat' (first | (with_reducible exact Keeps.refl _ _) | (with_reducible assumption) | (with_reducible refine Keeps.setOne ?_ _ _) | (with_reducible refine Keeps.alloc ?_ _) | (with_reducible refine Keeps.drew ?_)))⟩

set_option maxHeartbeats 1000000 in
theorem out_one0 (m : Int) (st : Bool) (l g : Int) (up : Bool) (f : Int) (hd : Bool) (v : Int) (rest : List Value) (b : Nat) (t : Int) (w : World) (H : C0 w b m 1 st l g false up f hd v rest)   :
    Calls Try.prog 10 #[.pointer (some ⟨b, 0, none⟩), .int .i64 0, .int .u8 0, .int .u64 t] w fun e w' => e = .returned (.int .i64 0) ∧ C0 w' b m 1 false 65536 t false up f hd v rest ∧ Keeps (· = b) w w' := by
  obtain ⟨k0, k1, k2, k3, k4, k5, k6, k7, k8, k9, kf, klt⟩ := H.facts
  go_enter Try.func10, Try.ntmps10
  go_wp2_with fail
  all_goals
    go_ret
    exact ⟨rfl, by (unfold C0 at H ⊢; simp only [heap_set_map, putObj_cells, H, Option.map_some, List.set_cons_succ, List.set_cons_zero]), by (repeat' (first | (with_reducible exact Keeps.refl _ _) | (with_reducible assumption) | (with_reducible refine Keeps.setOne ?_ _ _) | (with_reducible refine Keeps.alloc ?_ _) | (with_reducible refine Keeps.drew ?_)))⟩

set_option maxHeartbeats 1000000 in
theorem out_two (m : Int) (st : Bool) (l g : Int) (up : Bool) (f : Int) (hd : Bool) (v : Int) (rest : List Value) (b : Nat) (t : Int) (w : World) (H : C0 w b m 2 st l g false up f hd v rest) (x : Int) (x0 : 0 ≤ x) (x1 : x < 256) (hz : 0 < x) :
    Calls Try.prog 10 #[.pointer (some ⟨b, 0, none⟩), .int .i64 0, .int .u8 x, .int .u64 t] w fun e w' => e = .returned (.int .i64 0) ∧ C0 w' b m 2 false (x * 256) t false up f hd v rest ∧ Keeps (· = b) w w' := by
  obtain ⟨k0, k1, k2, k3, k4, k5, k6, k7, k8, k9, kf, klt⟩ := H.facts
  have e2 : (x * 256 == 0) = false := by simp; omega
  go_enter Try.func10, Try.ntmps10
  go_wp2_with fail
  all_goals
    go_ret
    exact ⟨rfl, by (unfold C0 at H ⊢; simp only [heap_set_map, putObj_cells, H, Option.map_some, List.set_cons_succ, List.set_cons_zero]), by (repeat' (first | (with_reducible exact Keeps.refl _ _) | (with_reducible assumption) | (with_reducible refine Keeps.setOne ?_ _ _) | (with_reducible refine Keeps.alloc ?_ _) | (with_reducible refine Keeps.drew ?_)))⟩

set_option maxHeartbeats 1000000 in
theorem out_two0 (m : Int) (st : Bool) (l g : Int) (up : Bool) (f : Int) (hd : Bool) (v : Int) (rest : List Value) (b : Nat) (t : Int) (w : World) (H : C0 w b m 2 st l g false up f hd v rest)   :
    Calls Try.prog 10 #[.pointer (some ⟨b, 0, none⟩), .int .i64 0, .int .u8 0, .int .u64 t] w fun e w' => e = .returned (.int .i64 0) ∧ C0 w' b m 2 false 65536 t false up f hd v rest ∧ Keeps (· = b) w w' := by
  obtain ⟨k0, k1, k2, k3, k4, k5, k6, k7, k8, k9, kf, klt⟩ := H.facts
  go_enter Try.func10, Try.ntmps10
  go_wp2_with fail
  all_goals
    go_ret
    exact ⟨rfl, by (unfold C0 at H ⊢; simp only [heap_set_map, putObj_cells, H, Option.map_some, List.set_cons_succ, List.set_cons_zero]), by (repeat' (first | (with_reducible exact Keeps.refl _ _) | (with_reducible assumption) | (with_reducible refine Keeps.setOne ?_ _ _) | (with_reducible refine Keeps.alloc ?_ _) | (with_reducible refine Keeps.drew ?_)))⟩

set_option maxHeartbeats 1000000 in
theorem outc_16 (m h : Int) (st : Bool) (l g : Int) (wn up : Bool) (f : Int) (hd : Bool) (v : Int) (rest : List Value) (b : Nat) (t : Int) (w : World) (H : C0 w b m h st l g wn up f hd v rest) :
    Calls Try.prog 10 #[.pointer (some ⟨b, 0, none⟩), .int .i64 3, .int .u8 16, .int .u64 t] w fun e w' => e = .returned (.int .i64 0) ∧ C0 w' b 0 1 true l g false false f false v rest ∧ Keeps (· = b) w w' := by
  go_enter Try.func10, Try.ntmps10
  go_wp2_with fail
  refine (cmd_16 m h st l g wn up f hd v rest b t _ H).mono ?_
  rintro e w1 ⟨rfl, H1, hK⟩
  go_wp2_with fail
  go_ret
  exact ⟨rfl, H1, hK⟩

set_option maxHeartbeats 1000000 in
theorem outc_32 (m h : Int) (st : Bool) (l g : Int) (wn up : Bool) (f : Int) (hd : Bool) (v : Int) (rest : List Value) (b : Nat) (t : Int) (w : World) (H : C0 w b m h st l g wn up f hd v rest) :
    Calls Try.prog 10 #[.pointer (some ⟨b, 0, none⟩), .int .i64 3, .int .u8 32, .int .u64 t] w fun e w' => e = .returned (.int .i64 0) ∧ C0 w' b 0 2 true l g false true f false v rest ∧ Keeps (· = b) w w' := by
  go_enter Try.func10, Try.ntmps10
  go_wp2_with fail
  refine (cmd_32 m h st l g wn up f hd v rest b t _ H).mono ?_
  rintro e w1 ⟨rfl, H1, hK⟩
  go_wp2_with fail
  go_ret
  exact ⟨rfl, H1, hK⟩

set_option maxHeartbeats 1000000 in
theorem outc_48 (m h : Int) (st : Bool) (l g : Int) (wn up : Bool) (f : Int) (hd : Bool) (v : Int) (rest : List Value) (b : Nat) (t : Int) (w : World) (H : C0 w b m h st l g wn up f hd v rest) :
    Calls Try.prog 10 #[.pointer (some ⟨b, 0, none⟩), .int .i64 3, .int .u8 48, .int .u64 t] w fun e w' => e = .returned (.int .i64 0) ∧ C0 w' b 0 3 true l g false false f false v rest ∧ Keeps (· = b) w w' := by
  go_enter Try.func10, Try.ntmps10
  go_wp2_with fail
  refine (cmd_48 m h st l g wn up f hd v rest b t _ H).mono ?_
  rintro e w1 ⟨rfl, H1, hK⟩
  go_wp2_with fail
  go_ret
  exact ⟨rfl, H1, hK⟩

set_option maxHeartbeats 1000000 in
theorem outc_52 (m h : Int) (st : Bool) (l g : Int) (wn up : Bool) (f : Int) (hd : Bool) (v : Int) (rest : List Value) (b : Nat) (t : Int) (w : World) (H : C0 w b m h st l g wn up f hd v rest) :
    Calls Try.prog 10 #[.pointer (some ⟨b, 0, none⟩), .int .i64 3, .int .u8 52, .int .u64 t] w fun e w' => e = .returned (.int .i64 0) ∧ C0 w' b 2 3 true l g false false f false v rest ∧ Keeps (· = b) w w' := by
  go_enter Try.func10, Try.ntmps10
  go_wp2_with fail
  refine (cmd_52 m h st l g wn up f hd v rest b t _ H).mono ?_
  rintro e w1 ⟨rfl, H1, hK⟩
  go_wp2_with fail
  go_ret
  exact ⟨rfl, H1, hK⟩

set_option maxHeartbeats 1000000 in
theorem outc_54 (m h : Int) (st : Bool) (l g : Int) (wn up : Bool) (f : Int) (hd : Bool) (v : Int) (rest : List Value) (b : Nat) (t : Int) (w : World) (H : C0 w b m h st l g wn up f hd v rest) :
    Calls Try.prog 10 #[.pointer (some ⟨b, 0, none⟩), .int .i64 3, .int .u8 54, .int .u64 t] w fun e w' => e = .returned (.int .i64 0) ∧ C0 w' b 3 3 true l g false false f false v rest ∧ Keeps (· = b) w w' := by
  go_enter Try.func10, Try.ntmps10
  go_wp2_with fail
  refine (cmd_54 m h st l g wn up f hd v rest b t _ H).mono ?_
  rintro e w1 ⟨rfl, H1, hK⟩
  go_wp2_with fail
  go_ret
  exact ⟨rfl, H1, hK⟩

set_option maxHeartbeats 1000000 in
theorem outc_latch (m h : Int) (st : Bool) (l g : Int) (wn up : Bool) (f : Int) (v : Int) (rest : List Value) (b : Nat) (t : Int) (w : World) (H : C0 w b m h st l g wn up f false v rest)
    (h0 : 1 ≤ l) (h1 : l ≤ 65536) (h2 : 0 ≤ g) (h3 : g ≤ t) (h4 : t < 18446744073709551616) (hm : m = 0 ∨ m = 2 ∨ m = 3) :
    Calls Try.prog 10 #[.pointer (some ⟨b, 0, none⟩), .int .i64 3, .int .u8 0, .int .u64 t] w fun e w' => e = .returned (.int .i64 0) ∧ C0 w' b m h st l g wn up f true (nowv m st l g t) rest ∧ Keeps (· = b) w w' := by
  have Hm := Lib.hid hm
  clear hm
  go_enter Try.func10, Try.ntmps10
  go_wp2_with fail
  refine (cmd_latch m h st l g wn up f v rest b t _ H h0 h1 h2 h3 h4 Hm.out).mono ?_
  rintro e w1 ⟨rfl, H1, hK⟩
  go_wp2_with fail
  go_ret
  exact ⟨rfl, H1, hK⟩

set_option maxHeartbeats 1000000 in
theorem out_bad (b : Nat) (p x t : Int) (w : World) (hp : 3 < p) :
    Calls Try.prog 10 #[.pointer (some ⟨b, 0, none⟩), .int .i64 p, .int .u8 x, .int .u64 t] w fun e w' => e = .returned (.int .i64 1) ∧ w = w' := by
  go_enter Try.func10, Try.ntmps10
  go_wp2_with fail
  go_ret
  exact ⟨rfl, rfl⟩
set_option maxHeartbeats 1000000 in
theorem out_nil (p x t : Int) (w : World) :
    Calls Try.prog 10 #[.pointer none, .int .i64 p, .int .u8 x, .int .u64 t] w fun e w' => e = .returned (.int .i64 1) ∧ w = w' := by
  go_enter Try.func10, Try.ntmps10
  go_wp2_with fail
  go_ret
  exact ⟨rfl, rfl⟩
set_option maxHeartbeats 1000000 in
theorem in_nil (p t : Int) (w : World) :
    Calls Try.prog 11 #[.pointer none, .int .i64 p, .int .u64 t] w fun e w' => e = .returned (.tuple #[.int .u8 0, .int .i64 1]) ∧ w = w' := by
  go_enter Try.func11, Try.ntmps11
  go_wp2_with fail
  go_ret2
  exact ⟨rfl, rfl⟩

/-- What is read of a counter: of the value V, of the upper byte or the lower. -/
def inv (up : Bool) (V : Int) : Int := if up then V / 256 % 256 else V % 256

theorem nowv_bd (m : Int) (st : Bool) (l g t : Int) (h0 : 1 ≤ l) : 0 ≤ nowv m st l g t ∧ nowv m st l g t < 65536 := by
  unfold nowv
  split
  · omega
  · split
    · omega
    · split <;> omega

set_option maxHeartbeats 1000000 in
theorem in_held_1_lo (m : Int) (st : Bool) (l g : Int) (wn : Bool) (f : Int) (v : Int) (rest : List Value) (b : Nat) (t : Int) (w : World) (H : C0 w b m 1 st l g wn false f true v rest) (hv0 : 0 ≤ v) (hv1 : v < 65536) :
    Calls Try.prog 11 #[.pointer (some ⟨b, 0, none⟩), .int .i64 0, .int .u64 t] w fun e w' => e = .returned (.tuple #[.int .u8 (inv false v), .int .i64 0]) ∧ C0 w' b m 1 st l g wn false f false v rest ∧ Keeps (· = b) w w' := by
  obtain ⟨k0, k1, k2, k3, k4, k5, k6, k7, k8, k9, kf, klt⟩ := H.facts
  go_enter Try.func11, Try.ntmps11
  go_wp2_with fail
  go_region
  all_goals
    go_wp2_with fail
    go_ret2
    exact ⟨by first | rfl | (simp [inv]; done) | (simp [inv]; omega), by (unfold C0 at H ⊢; simp only [heap_drew, heap_set_map, putObj_cells, H, Option.map_some, List.set_cons_succ, List.set_cons_zero]), by (repeat' (first | (with_reducible exact Keeps.refl _ _) | (with_reducible assumption) | (with_reducible refine Keeps.setOne ?_ _ _) | (with_reducible refine Keeps.alloc ?_ _) | (with_reducible refine Keeps.drew ?_)))⟩

set_option maxHeartbeats 1000000 in
theorem in_held_2_up (m : Int) (st : Bool) (l g : Int) (wn : Bool) (f : Int) (v : Int) (rest : List Value) (b : Nat) (t : Int) (w : World) (H : C0 w b m 2 st l g wn true f true v rest) (hv0 : 0 ≤ v) (hv1 : v < 65536) :
    Calls Try.prog 11 #[.pointer (some ⟨b, 0, none⟩), .int .i64 0, .int .u64 t] w fun e w' => e = .returned (.tuple #[.int .u8 (inv true v), .int .i64 0]) ∧ C0 w' b m 2 st l g wn true f false v rest ∧ Keeps (· = b) w w' := by
  obtain ⟨k0, k1, k2, k3, k4, k5, k6, k7, k8, k9, kf, klt⟩ := H.facts
  go_enter Try.func11, Try.ntmps11
  go_wp2_with fail
  go_region
  all_goals
    go_wp2_with fail
    go_ret2
    exact ⟨by first | rfl | (simp [inv]; done) | (simp [inv]; omega), by (unfold C0 at H ⊢; simp only [heap_drew, heap_set_map, putObj_cells, H, Option.map_some, List.set_cons_succ, List.set_cons_zero]), by (repeat' (first | (with_reducible exact Keeps.refl _ _) | (with_reducible assumption) | (with_reducible refine Keeps.setOne ?_ _ _) | (with_reducible refine Keeps.alloc ?_ _) | (with_reducible refine Keeps.drew ?_)))⟩

set_option maxHeartbeats 1000000 in
theorem in_held_3_up (m : Int) (st : Bool) (l g : Int) (wn : Bool) (f : Int) (v : Int) (rest : List Value) (b : Nat) (t : Int) (w : World) (H : C0 w b m 3 st l g wn true f true v rest) (hv0 : 0 ≤ v) (hv1 : v < 65536) :
    Calls Try.prog 11 #[.pointer (some ⟨b, 0, none⟩), .int .i64 0, .int .u64 t] w fun e w' => e = .returned (.tuple #[.int .u8 (inv true v), .int .i64 0]) ∧ C0 w' b m 3 st l g wn false f false v rest ∧ Keeps (· = b) w w' := by
  obtain ⟨k0, k1, k2, k3, k4, k5, k6, k7, k8, k9, kf, klt⟩ := H.facts
  go_enter Try.func11, Try.ntmps11
  go_wp2_with fail
  go_region
  all_goals
    go_wp2_with fail
    go_ret2
    exact ⟨by first | rfl | (simp [inv]; done) | (simp [inv]; omega), by (unfold C0 at H ⊢; simp only [heap_drew, heap_set_map, putObj_cells, H, Option.map_some, List.set_cons_succ, List.set_cons_zero]), by (repeat' (first | (with_reducible exact Keeps.refl _ _) | (with_reducible assumption) | (with_reducible refine Keeps.setOne ?_ _ _) | (with_reducible refine Keeps.alloc ?_ _) | (with_reducible refine Keeps.drew ?_)))⟩

set_option maxHeartbeats 1000000 in
theorem in_held_3_lo (m : Int) (st : Bool) (l g : Int) (wn : Bool) (f : Int) (v : Int) (rest : List Value) (b : Nat) (t : Int) (w : World) (H : C0 w b m 3 st l g wn false f true v rest) (hv0 : 0 ≤ v) (hv1 : v < 65536) :
    Calls Try.prog 11 #[.pointer (some ⟨b, 0, none⟩), .int .i64 0, .int .u64 t] w fun e w' => e = .returned (.tuple #[.int .u8 (inv false v), .int .i64 0]) ∧ C0 w' b m 3 st l g wn true f true v rest ∧ Keeps (· = b) w w' := by
  obtain ⟨k0, k1, k2, k3, k4, k5, k6, k7, k8, k9, kf, klt⟩ := H.facts
  go_enter Try.func11, Try.ntmps11
  go_wp2_with fail
  go_region
  all_goals
    go_wp2_with fail
    go_ret2
    exact ⟨by first | rfl | (simp [inv]; done) | (simp [inv]; omega), by (unfold C0 at H ⊢; simp only [heap_drew, heap_set_map, putObj_cells, H, Option.map_some, List.set_cons_succ, List.set_cons_zero]), by (repeat' (first | (with_reducible exact Keeps.refl _ _) | (with_reducible assumption) | (with_reducible refine Keeps.setOne ?_ _ _) | (with_reducible refine Keeps.alloc ?_ _) | (with_reducible refine Keeps.drew ?_)))⟩

set_option maxHeartbeats 1000000 in
theorem in_live_1_lo (m : Int) (st : Bool) (l g : Int) (wn : Bool) (f : Int) (v : Int) (rest : List Value) (b : Nat) (t : Int) (w : World) (H : C0 w b m 1 st l g wn false f false v rest) (h0 : 1 ≤ l) (h1 : l ≤ 65536) (h2 : 0 ≤ g) (h3 : g ≤ t) (h4 : t < 18446744073709551616) (hm : m = 0 ∨ m = 2 ∨ m = 3)  :
    Calls Try.prog 11 #[.pointer (some ⟨b, 0, none⟩), .int .i64 0, .int .u64 t] w fun e w' => e = .returned (.tuple #[.int .u8 (inv false (nowv m st l g t)), .int .i64 0]) ∧ C0 w' b m 1 st l g wn false f false v rest ∧ Keeps (· = b) w w' := by
  obtain ⟨k0, k1, k2, k3, k4, k5, k6, k7, k8, k9, kf, klt⟩ := H.facts
  have Hm := Lib.hid hm
  clear hm
  have hv := Lib.hid (nowv_bd m st l g t h0)
  go_enter Try.func11, Try.ntmps11
  go_wp2_with fail
  refine (now_any m st l g t b 0 _ k0 k2 k3 k4 h0 h1 h2 h3 h4 Hm.out).mono ?_
  rintro e w1 ⟨rfl, hb⟩
  have H1 := H.below hb
  clear k0 k1 k2 k3 k4 k5 k6 k7 k8 k9 kf
  obtain ⟨k0, k1, k2, k3, k4, k5, k6, k7, k8, k9, kf, klt1⟩ := H1.facts
  have hK : Keeps (· = b) w w1 := Keeps.ofBelow hb
  obtain ⟨hv0, hv1⟩ := hv.out
  go_wp2_with fail
  go_region
  all_goals
    go_wp2_with fail
    go_ret2
    exact ⟨by first | rfl | (simp [inv]; done) | (simp [inv]; omega), by (unfold C0 at H1 ⊢; simp only [heap_drew, heap_set_map, putObj_cells, H1, Option.map_some, List.set_cons_succ, List.set_cons_zero]), by (repeat' (first | (with_reducible exact Keeps.refl _ _) | (with_reducible assumption) | (with_reducible refine Keeps.setOne ?_ _ _) | (with_reducible refine Keeps.alloc ?_ _) | (with_reducible refine Keeps.drew ?_)))⟩

set_option maxHeartbeats 1000000 in
theorem in_live_2_up (m : Int) (st : Bool) (l g : Int) (wn : Bool) (f : Int) (v : Int) (rest : List Value) (b : Nat) (t : Int) (w : World) (H : C0 w b m 2 st l g wn true f false v rest) (h0 : 1 ≤ l) (h1 : l ≤ 65536) (h2 : 0 ≤ g) (h3 : g ≤ t) (h4 : t < 18446744073709551616) (hm : m = 0 ∨ m = 2 ∨ m = 3)  :
    Calls Try.prog 11 #[.pointer (some ⟨b, 0, none⟩), .int .i64 0, .int .u64 t] w fun e w' => e = .returned (.tuple #[.int .u8 (inv true (nowv m st l g t)), .int .i64 0]) ∧ C0 w' b m 2 st l g wn true f false v rest ∧ Keeps (· = b) w w' := by
  obtain ⟨k0, k1, k2, k3, k4, k5, k6, k7, k8, k9, kf, klt⟩ := H.facts
  have Hm := Lib.hid hm
  clear hm
  have hv := Lib.hid (nowv_bd m st l g t h0)
  go_enter Try.func11, Try.ntmps11
  go_wp2_with fail
  refine (now_any m st l g t b 0 _ k0 k2 k3 k4 h0 h1 h2 h3 h4 Hm.out).mono ?_
  rintro e w1 ⟨rfl, hb⟩
  have H1 := H.below hb
  clear k0 k1 k2 k3 k4 k5 k6 k7 k8 k9 kf
  obtain ⟨k0, k1, k2, k3, k4, k5, k6, k7, k8, k9, kf, klt1⟩ := H1.facts
  have hK : Keeps (· = b) w w1 := Keeps.ofBelow hb
  obtain ⟨hv0, hv1⟩ := hv.out
  go_wp2_with fail
  go_region
  all_goals
    go_wp2_with fail
    go_ret2
    exact ⟨by first | rfl | (simp [inv]; done) | (simp [inv]; omega), by (unfold C0 at H1 ⊢; simp only [heap_drew, heap_set_map, putObj_cells, H1, Option.map_some, List.set_cons_succ, List.set_cons_zero]), by (repeat' (first | (with_reducible exact Keeps.refl _ _) | (with_reducible assumption) | (with_reducible refine Keeps.setOne ?_ _ _) | (with_reducible refine Keeps.alloc ?_ _) | (with_reducible refine Keeps.drew ?_)))⟩

set_option maxHeartbeats 1000000 in
theorem in_live_3_up (m : Int) (st : Bool) (l g : Int) (wn : Bool) (f : Int) (v : Int) (rest : List Value) (b : Nat) (t : Int) (w : World) (H : C0 w b m 3 st l g wn true f false v rest) (h0 : 1 ≤ l) (h1 : l ≤ 65536) (h2 : 0 ≤ g) (h3 : g ≤ t) (h4 : t < 18446744073709551616) (hm : m = 0 ∨ m = 2 ∨ m = 3)  :
    Calls Try.prog 11 #[.pointer (some ⟨b, 0, none⟩), .int .i64 0, .int .u64 t] w fun e w' => e = .returned (.tuple #[.int .u8 (inv true (nowv m st l g t)), .int .i64 0]) ∧ C0 w' b m 3 st l g wn false f false v rest ∧ Keeps (· = b) w w' := by
  obtain ⟨k0, k1, k2, k3, k4, k5, k6, k7, k8, k9, kf, klt⟩ := H.facts
  have Hm := Lib.hid hm
  clear hm
  have hv := Lib.hid (nowv_bd m st l g t h0)
  go_enter Try.func11, Try.ntmps11
  go_wp2_with fail
  refine (now_any m st l g t b 0 _ k0 k2 k3 k4 h0 h1 h2 h3 h4 Hm.out).mono ?_
  rintro e w1 ⟨rfl, hb⟩
  have H1 := H.below hb
  clear k0 k1 k2 k3 k4 k5 k6 k7 k8 k9 kf
  obtain ⟨k0, k1, k2, k3, k4, k5, k6, k7, k8, k9, kf, klt1⟩ := H1.facts
  have hK : Keeps (· = b) w w1 := Keeps.ofBelow hb
  obtain ⟨hv0, hv1⟩ := hv.out
  go_wp2_with fail
  go_region
  all_goals
    go_wp2_with fail
    go_ret2
    exact ⟨by first | rfl | (simp [inv]; done) | (simp [inv]; omega), by (unfold C0 at H1 ⊢; simp only [heap_drew, heap_set_map, putObj_cells, H1, Option.map_some, List.set_cons_succ, List.set_cons_zero]), by (repeat' (first | (with_reducible exact Keeps.refl _ _) | (with_reducible assumption) | (with_reducible refine Keeps.setOne ?_ _ _) | (with_reducible refine Keeps.alloc ?_ _) | (with_reducible refine Keeps.drew ?_)))⟩

set_option maxHeartbeats 1000000 in
theorem in_live_3_lo (m : Int) (st : Bool) (l g : Int) (wn : Bool) (f : Int) (v : Int) (rest : List Value) (b : Nat) (t : Int) (w : World) (H : C0 w b m 3 st l g wn false f false v rest) (h0 : 1 ≤ l) (h1 : l ≤ 65536) (h2 : 0 ≤ g) (h3 : g ≤ t) (h4 : t < 18446744073709551616) (hm : m = 0 ∨ m = 2 ∨ m = 3)  :
    Calls Try.prog 11 #[.pointer (some ⟨b, 0, none⟩), .int .i64 0, .int .u64 t] w fun e w' => e = .returned (.tuple #[.int .u8 (inv false (nowv m st l g t)), .int .i64 0]) ∧ C0 w' b m 3 st l g wn true f false v rest ∧ Keeps (· = b) w w' := by
  obtain ⟨k0, k1, k2, k3, k4, k5, k6, k7, k8, k9, kf, klt⟩ := H.facts
  have Hm := Lib.hid hm
  clear hm
  have hv := Lib.hid (nowv_bd m st l g t h0)
  go_enter Try.func11, Try.ntmps11
  go_wp2_with fail
  refine (now_any m st l g t b 0 _ k0 k2 k3 k4 h0 h1 h2 h3 h4 Hm.out).mono ?_
  rintro e w1 ⟨rfl, hb⟩
  have H1 := H.below hb
  clear k0 k1 k2 k3 k4 k5 k6 k7 k8 k9 kf
  obtain ⟨k0, k1, k2, k3, k4, k5, k6, k7, k8, k9, kf, klt1⟩ := H1.facts
  have hK : Keeps (· = b) w w1 := Keeps.ofBelow hb
  obtain ⟨hv0, hv1⟩ := hv.out
  go_wp2_with fail
  go_region
  all_goals
    go_wp2_with fail
    go_ret2
    exact ⟨by first | rfl | (simp [inv]; done) | (simp [inv]; omega), by (unfold C0 at H1 ⊢; simp only [heap_drew, heap_set_map, putObj_cells, H1, Option.map_some, List.set_cons_succ, List.set_cons_zero]), by (repeat' (first | (with_reducible exact Keeps.refl _ _) | (with_reducible assumption) | (with_reducible refine Keeps.setOne ?_ _ _) | (with_reducible refine Keeps.alloc ?_ _) | (with_reducible refine Keeps.drew ?_)))⟩
end Go.Proofs.Ytehobiccbfkbjaa
