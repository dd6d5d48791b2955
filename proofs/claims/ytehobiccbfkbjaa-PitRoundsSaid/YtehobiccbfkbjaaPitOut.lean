/- pit: the counter 0 as an object; command, Out, In. -/
import Derived.Test.YtehobiccbfkbjaaPitLine
namespace Go.Proofs.Ytehobiccbfkbjaa
open Go.RowKit
set_option linter.unusedVariables false

/-- Block b is a timer whose counter 0 is as said. -/
def C0 (w : World) (b : Nat) (m h : Int) (st : Bool) (l g : Int) (wn up : Bool) (f : Int) (hd : Bool) (v : Int) (rest : List Value) : Prop :=
  w.heap[b]? = some (.cells (.int .u8 m :: .int .u8 h :: .bool st :: .int .u64 l :: .int .u64 g :: .bool wn :: .bool up :: .int .u8 f :: .bool hd :: .int .u16 v :: rest).toArray 46)

theorem C0.facts {w : World} {b : Nat} {m h : Int} {st : Bool} {l g : Int} {wn up : Bool} {f : Int} {hd : Bool} {v : Int} {rest : List Value} (H : C0 w b m h st l g wn up f hd v rest) :
    w.cell? ⟨b, 0, none⟩ = some (.int .u8 m) ∧ w.cell? ⟨b, 1, none⟩ = some (.int .u8 h) ∧ w.cell? ⟨b, 2, none⟩ = some (.bool st) ∧ w.cell? ⟨b, 3, none⟩ = some (.int .u64 l) ∧ w.cell? ⟨b, 4, none⟩ = some (.int .u64 g) ∧
    w.cell? ⟨b, 5, none⟩ = some (.bool wn) ∧ w.cell? ⟨b, 6, none⟩ = some (.bool up) ∧ w.cell? ⟨b, 7, none⟩ = some (.int .u8 f) ∧ w.cell? ⟨b, 8, none⟩ = some (.bool hd) ∧ w.cell? ⟨b, 9, none⟩ = some (.int .u16 v) ∧
    (∀ k, w.frozen? ⟨b, k, none⟩ = false) ∧ b < w.heap.size := by
  unfold C0 at H
  refine ⟨?_, ?_, ?_, ?_, ?_, ?_, ?_, ?_, ?_, ?_, fun k => free_at H, heap_lt H⟩ <;> (rw [cell_at H]; rfl)

theorem C0.below {w w1 : World} {b : Nat} {m h : Int} {st : Bool} {l g : Int} {wn up : Bool} {f : Int} {hd : Bool} {v : Int} {rest : List Value} (H : C0 w b m h st l g wn up f hd v rest) (hb : Below w.heap.size w w1) :
    C0 w1 b m h st l g wn up f hd v rest := heap_below hb H


set_option maxHeartbeats 1000000 in
theorem cmd_16 (m h : Int) (st : Bool) (l g : Int) (wn up : Bool) (f : Int) (hd : Bool) (v : Int) (rest : List Value) (b : Nat) (t : Int) (w : World) (H : C0 w b m h st l g wn up f hd v rest) :
    Calls Try.prog 14 #[.pointer (some ⟨b, 0, none⟩), .int .u8 16, .int .u64 t] w fun e w' => e = .returned (.tuple #[]) ∧ C0 w' b 0 1 true l g false false f false v rest ∧ Keeps (· = b) w w' := by
  obtain ⟨k0, k1, k2, k3, k4, k5, k6, k7, k8, k9, kf, klt⟩ := H.facts
  have e1 : bits BinOp.and IntKind.u8 1 3 = 1 := by decide
  have e2 : bits BinOp.and IntKind.u8 8 7 = 0 := by decide
  clear k3 k4 k7 k9
  go_enter Try.func14, Try.ntmps14
  go_wp2_with fail
  all_goals
    go_returns
    exact ⟨rfl, by (unfold C0 at H ⊢; simp only [heap_set_map, putObj_cells, H, Option.map_some, List.set_cons_succ, List.set_cons_zero]), by (repeat' (first | (with_reducible exact Keeps.refl _ _) | (with_reducible assumption) | (with_reducible refine Keeps.setOne ?_ _ _) | (with_reducible refine Keeps.alloc ?_ _) | (with_reducible refine Keeps.drew ?_)))⟩

set_option maxHeartbeats 1000000 in
theorem cmd_32 (m h : Int) (st : Bool) (l g : Int) (wn up : Bool) (f : Int) (hd : Bool) (v : Int) (rest : List Value) (b : Nat) (t : Int) (w : World) (H : C0 w b m h st l g wn up f hd v rest) :
    Calls Try.prog 14 #[.pointer (some ⟨b, 0, none⟩), .int .u8 32, .int .u64 t] w fun e w' => e = .returned (.tuple #[]) ∧ C0 w' b 0 2 true l g false true f false v rest ∧ Keeps (· = b) w w' := by
  obtain ⟨k0, k1, k2, k3, k4, k5, k6, k7, k8, k9, kf, klt⟩ := H.facts
  have e1 : bits BinOp.and IntKind.u8 2 3 = 2 := by decide
  have e2 : bits BinOp.and IntKind.u8 16 7 = 0 := by decide
  clear k3 k4 k7 k9
  go_enter Try.func14, Try.ntmps14
  go_wp2_with fail
  all_goals
    go_returns
    exact ⟨rfl, by (unfold C0 at H ⊢; simp only [heap_set_map, putObj_cells, H, Option.map_some, List.set_cons_succ, List.set_cons_zero]), by (repeat' (first | (with_reducible exact Keeps.refl _ _) | (with_reducible assumption) | (with_reducible refine Keeps.setOne ?_ _ _) | (with_reducible refine Keeps.alloc ?_ _) | (with_reducible refine Keeps.drew ?_)))⟩

set_option maxHeartbeats 1000000 in
theorem cmd_48 (m h : Int) (st : Bool) (l g : Int) (wn up : Bool) (f : Int) (hd : Bool) (v : Int) (rest : List Value) (b : Nat) (t : Int) (w : World) (H : C0 w b m h st l g wn up f hd v rest) :
    Calls Try.prog 14 #[.pointer (some ⟨b, 0, none⟩), .int .u8 48, .int .u64 t] w fun e w' => e = .returned (.tuple #[]) ∧ C0 w' b 0 3 true l g false false f false v rest ∧ Keeps (· = b) w w' := by
  obtain ⟨k0, k1, k2, k3, k4, k5, k6, k7, k8, k9, kf, klt⟩ := H.facts
  have e1 : bits BinOp.and IntKind.u8 3 3 = 3 := by decide
  have e2 : bits BinOp.and IntKind.u8 24 7 = 0 := by decide
  clear k3 k4 k7 k9
  go_enter Try.func14, Try.ntmps14
  go_wp2_with fail
  all_goals
    go_returns
    exact ⟨rfl, by (unfold C0 at H ⊢; simp only [heap_set_map, putObj_cells, H, Option.map_some, List.set_cons_succ, List.set_cons_zero]), by (repeat' (first | (with_reducible exact Keeps.refl _ _) | (with_reducible assumption) | (with_reducible refine Keeps.setOne ?_ _ _) | (with_reducible refine Keeps.alloc ?_ _) | (with_reducible refine Keeps.drew ?_)))⟩

set_option maxHeartbeats 1000000 in
theorem cmd_52 (m h : Int) (st : Bool) (l g : Int) (wn up : Bool) (f : Int) (hd : Bool) (v : Int) (rest : List Value) (b : Nat) (t : Int) (w : World) (H : C0 w b m h st l g wn up f hd v rest) :
    Calls Try.prog 14 #[.pointer (some ⟨b, 0, none⟩), .int .u8 52, .int .u64 t] w fun e w' => e = .returned (.tuple #[]) ∧ C0 w' b 2 3 true l g false false f false v rest ∧ Keeps (· = b) w w' := by
  obtain ⟨k0, k1, k2, k3, k4, k5, k6, k7, k8, k9, kf, klt⟩ := H.facts
  have e1 : bits BinOp.and IntKind.u8 3 3 = 3 := by decide
  have e2 : bits BinOp.and IntKind.u8 26 7 = 2 := by decide
  clear k3 k4 k7 k9
  go_enter Try.func14, Try.ntmps14
  go_wp2_with fail
  all_goals
    go_returns
    exact ⟨rfl, by (unfold C0 at H ⊢; simp only [heap_set_map, putObj_cells, H, Option.map_some, List.set_cons_succ, List.set_cons_zero]), by (repeat' (first | (with_reducible exact Keeps.refl _ _) | (with_reducible assumption) | (with_reducible refine Keeps.setOne ?_ _ _) | (with_reducible refine Keeps.alloc ?_ _) | (with_reducible refine Keeps.drew ?_)))⟩

set_option maxHeartbeats 1000000 in
theorem cmd_54 (m h : Int) (st : Bool) (l g : Int) (wn up : Bool) (f : Int) (hd : Bool) (v : Int) (rest : List Value) (b : Nat) (t : Int) (w : World) (H : C0 w b m h st l g wn up f hd v rest) :
    Calls Try.prog 14 #[.pointer (some ⟨b, 0, none⟩), .int .u8 54, .int .u64 t] w fun e w' => e = .returned (.tuple #[]) ∧ C0 w' b 3 3 true l g false false f false v rest ∧ Keeps (· = b) w w' := by
  obtain ⟨k0, k1, k2, k3, k4, k5, k6, k7, k8, k9, kf, klt⟩ := H.facts
  have e1 : bits BinOp.and IntKind.u8 3 3 = 3 := by decide
  have e2 : bits BinOp.and IntKind.u8 27 7 = 3 := by decide
  clear k3 k4 k7 k9
  go_enter Try.func14, Try.ntmps14
  go_wp2_with fail
  all_goals
    go_returns
    exact ⟨rfl, by (unfold C0 at H ⊢; simp only [heap_set_map, putObj_cells, H, Option.map_some, List.set_cons_succ, List.set_cons_zero]), by (repeat' (first | (with_reducible exact Keeps.refl _ _) | (with_reducible assumption) | (with_reducible refine Keeps.setOne ?_ _ _) | (with_reducible refine Keeps.alloc ?_ _) | (with_reducible refine Keeps.drew ?_)))⟩


set_option maxHeartbeats 1000000 in
theorem cmd_latch (m h : Int) (st : Bool) (l g : Int) (wn up : Bool) (f : Int) (v : Int) (rest : List Value) (b : Nat) (t : Int) (w : World) (H : C0 w b m h st l g wn up f false v rest)
    (h0 : 1 ≤ l) (h1 : l ≤ 65536) (h2 : 0 ≤ g) (h3 : g ≤ t) (h4 : t < 18446744073709551616) (hm : m = 0 ∨ m = 2 ∨ m = 3) :
    Calls Try.prog 14 #[.pointer (some ⟨b, 0, none⟩), .int .u8 0, .int .u64 t] w fun e w' => e = .returned (.tuple #[]) ∧ C0 w' b m h st l g wn up f true (nowv m st l g t) rest ∧ Keeps (· = b) w w' := by
  obtain ⟨k0, k1, k2, k3, k4, k5, k6, k7, k8, k9, kf, klt⟩ := H.facts
  have e1 : bits BinOp.and IntKind.u8 0 3 = 0 := by decide
  have Hm := Lib.hid hm
  clear hm
  go_enter Try.func14, Try.ntmps14
  go_wp2_with fail
  refine (now_any m st l g t b 0 _ k0 k2 k3 k4 h0 h1 h2 h3 h4 Hm.out).mono ?_
  rintro e w1 ⟨rfl, hb⟩
  have H1 := H.below hb
  clear k0 k1 k2 k3 k4 k5 k6 k7 k8 k9 kf
  obtain ⟨k0, k1, k2, k3, k4, k5, k6, k7, k8, k9, kf, klt1⟩ := H1.facts
  have hK : Keeps (· = b) w w1 := Keeps.ofBelow hb
  go_wp2_with fail
  go_returns
  exact ⟨rfl, by (unfold C0 at H1 ⊢; simp only [heap_set_map, putObj_cells, H1, Option.map_some, List.set_cons_succ, List.set_cons_zero]), by (repeat' (first | (with_reducible exact Keeps.refl _ _) | (with_reducible assumption) | (with_reducible refine Keeps.setOne ?_ _ _) | (with_reducible refine Keeps.alloc ?_ _) | (with_reducible refine Keeps.drew ?_)))⟩

set_option maxHeartbeats 1000000 in
theorem out_first (m : Int) (st : Bool) (l g : Int) (up : Bool) (f : Int) (hd : Bool) (v : Int) (rest : List Value) (b : Nat) (t : Int) (w : World) (H : C0 w b m 3 st l g false up f hd v rest) (x : Int) (x0 : 0 ≤ x) (x1 : x < 256)  :
    Calls Try.prog 10 #[.pointer (some ⟨b, 0, none⟩), .int .i64 0, .int .u8 x, .int .u64 t] w fun e w' => e = .returned (.int .i64 0) ∧ C0 w' b m 3 st l g true up x hd v rest ∧ Keeps (· = b) w w' := by
  obtain ⟨k0, k1, k2, k3, k4, k5, k6, k7, k8, k9, kf, klt⟩ := H.facts
  go_enter Try.func10, Try.ntmps10
  go_wp2_with fail
  all_goals
    go_ret
    exact ⟨rfl, by (unfold C0 at H ⊢; simp only [heap_set_map, putObj_cells, H, Option.map_some, List.set_cons_succ, List.set_cons_zero]), by (repeat' (first | (with_reducible exact Keeps.refl _ _) | (with_reducible assumption) | (with_reducible refine Keeps.setOne ?_ _ _) | (with_reducible refine Keeps.alloc ?_ _) | (with_reducible refine Keeps.drew ?_)))⟩
end Go.Proofs.Ytehobiccbfkbjaa
