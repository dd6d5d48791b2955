/- Steps of a proof: PicL, PicM, together. -/
import Derived.Test.YtojmpdddfnkffaaGreatS7
import Derived.BigQuiet
import Derived.Deep.MidRow
import Derived.Laws.Tables
import Derived.Laws.Rows
import Derived.Laws.CopyOwn
import Derived.Deep.RegionHeld3
/- pic: the document's chips: a bit, bits as a byte. -/
set_option maxHeartbeats 4000000
set_option maxRecDepth 20000
namespace Go.Proofs.YtojmpdddfnkffaaGreat.Pic
open Go.RowKit
set_option linter.unusedVariables false

def bt (x n : Nat) : Bool := x.testBit n
def bits8 (x : Nat) : List Value := [.bool (bt x 0), .bool (bt x 1), .bool (bt x 2), .bool (bt x 3), .bool (bt x 4), .bool (bt x 5), .bool (bt x 6), .bool (bt x 7)]
theorem testBit_int (x n : Nat) : x.testBit n = decide ((x : Int) / ((2 ^ n : Nat) : Int) % 2 = 1) := by
 rw [Nat.testBit_eq_decide_div_mod_eq, Bool.eq_iff_iff, decide_eq_true_eq, decide_eq_true_eq]
 omega
theorem bit_any (v n : Nat) (hv : v < 256) (hn : n < 8) (w : World) :
    Calls Tryz.prog 144 #[.int .u8 v, .int .i64 n] w fun e w' => e = .returned (.bool (v.testBit n)) ∧ w = w' := by
 have ht := Lib.hid (testBit_int v n)
 rcases (show n = 0 ∨ n = 1 ∨ n = 2 ∨ n = 3 ∨ n = 4 ∨ n = 5 ∨ n = 6 ∨ n = 7 by omega) with rfl | rfl | rfl | rfl | rfl | rfl | rfl | rfl
 all_goals
  go_enter Tryz.func144, Tryz.ntmps144
  go_wp2_with fail
  go_ret
  refine ⟨congrArg (fun b => Ending.returned (Value.bool b)) (?_ : _ = _), rfl⟩
  rw [ht.out, Bool.eq_iff_iff, beq_iff_eq, decide_eq_true_eq]
  omega

theorem mod_up (x k : Nat) : x % 2 ^ (k + 1) = x % 2 ^ k + (if x.testBit k then 2 ^ k else 0) := by
 rw [Nat.testBit_eq_decide_div_mod_eq, Nat.pow_succ, Nat.mod_mul]
 have : x / 2 ^ k % 2 < 2 := Nat.mod_lt _ (by decide)
 rcases (show x / 2 ^ k % 2 = 0 ∨ x / 2 ^ k % 2 = 1 by omega) with h | h <;> rw [h] <;> simp
theorem byteOf_gen (x : Nat) (hx : x < 256) (b0 b1 b2 b3 b4 b5 b6 b7 : Bool) (ht : x.testBit 0 = b0 ∧ x.testBit 1 = b1 ∧ x.testBit 2 = b2 ∧ x.testBit 3 = b3 ∧ x.testBit 4 = b4 ∧ x.testBit 5 = b5 ∧ x.testBit 6 = b6 ∧ x.testBit 7 = b7) (w : World) :
    Calls Tryz.prog 142 #[.agg #[.bool b0, .bool b1, .bool b2, .bool b3, .bool b4, .bool b5, .bool b6, .bool b7]] w fun e w' => e = .returned (.int .u8 x) ∧ Below w.heap.size w w' := by
 have HM := Lib.hid (mod_up x)
 have HX := Lib.hid hx
 have HT := Lib.hid ht
 clear hx ht
 go_enter Tryz.func142, Tryz.ntmps142
 go_wp2_with fail
 have HB : Below w.heap.size w (w.alloc (.cells #[.bool b0, .bool b1, .bool b2, .bool b3, .bool b4, .bool b5, .bool b6, .bool b7] 137)) := (Below.refl _ _).alloc (Nat.le_refl _) _
 have hh := heap_new w (.cells #[.bool b0, .bool b1, .bool b2, .bool b3, .bool b4, .bool b5, .bool b6, .bool b7] 137)
 go_loopw [3, 4] (fun o i wc => ∃ k : Nat, k ≤ 8 ∧ i = .int .i64 k ∧ o = .int .u8 ((x % 2 ^ k : Nat) : Int) ∧ wc = w.alloc (.cells #[.bool b0, .bool b1, .bool b2, .bool b3, .bool b4, .bool b5, .bool b6, .bool b7] 137)) (fun o i _ => 8 - (intOf i).toNat)
 case atStart => exact ⟨0, by omega, rfl, by rw [Nat.pow_zero, Nat.mod_one]; rfl, rfl⟩
 case round =>
  obtain ⟨k, hk, rfl, rfl, rfl⟩ := hrel
  by_cases h8 : k < 8
  ·have hk8 : k = 0 ∨ k = 1 ∨ k = 2 ∨ k = 3 ∨ k = 4 ∨ k = 5 ∨ k = 6 ∨ k = 7 := by omega
   rcases hk8 with rfl | rfl | rfl | rfl | rfl | rfl | rfl | rfl
   ·have kc : (w.alloc (.cells #[.bool b0, .bool b1, .bool b2, .bool b3, .bool b4, .bool b5, .bool b6, .bool b7] 137)).cell? ⟨w.heap.size, 0, none⟩ = some (.bool b0) := by rw [cell_at hh]; rfl
    have hm := HM.out 0
    have hb : x % 2 ^ 0 < 2 ^ 0 := Nat.mod_lt _ (by decide)
    rw [HT.out.1] at hm
    generalize x % 2 ^ 0 = y at hm hb ⊢
    have hb2 : (y : Int) < 1 := by omega
    have hb3 : (0 : Int) ≤ y := Int.natCast_nonneg y
    have HZ := Lib.hid hm
    clear hm
    cases b0
    all_goals
     go_wp2_with fail
     go_roundw
     case rel => exact ⟨1, by omega, by go_num, by (refine congrArg (Value.int .u8) (?_ : _ = _); have hz := HZ.out; simp only [if_true, if_false, Bool.false_eq_true] at hz; omega), by first | rfl | trivial⟩
     case measure => (simp [intOf]) <;> omega
   ·have kc : (w.alloc (.cells #[.bool b0, .bool b1, .bool b2, .bool b3, .bool b4, .bool b5, .bool b6, .bool b7] 137)).cell? ⟨w.heap.size, 1, none⟩ = some (.bool b1) := by rw [cell_at hh]; rfl
    have hm := HM.out 1
    have hb : x % 2 ^ 1 < 2 ^ 1 := Nat.mod_lt _ (by decide)
    rw [HT.out.2.1] at hm
    generalize x % 2 ^ 1 = y at hm hb ⊢
    have hb2 : (y : Int) < 2 := by omega
    have hb3 : (0 : Int) ≤ y := Int.natCast_nonneg y
    have HZ := Lib.hid hm
    clear hm
    cases b1
    all_goals
     go_wp2_with fail
     go_roundw
     case rel => exact ⟨2, by omega, by go_num, by (refine congrArg (Value.int .u8) (?_ : _ = _); have hz := HZ.out; simp only [if_true, if_false, Bool.false_eq_true] at hz; omega), by first | rfl | trivial⟩
     case measure => (simp [intOf]) <;> omega
   ·have kc : (w.alloc (.cells #[.bool b0, .bool b1, .bool b2, .bool b3, .bool b4, .bool b5, .bool b6, .bool b7] 137)).cell? ⟨w.heap.size, 2, none⟩ = some (.bool b2) := by rw [cell_at hh]; rfl
    have hm := HM.out 2
    have hb : x % 2 ^ 2 < 2 ^ 2 := Nat.mod_lt _ (by decide)
    rw [HT.out.2.2.1] at hm
    generalize x % 2 ^ 2 = y at hm hb ⊢
    have hb2 : (y : Int) < 4 := by omega
    have hb3 : (0 : Int) ≤ y := Int.natCast_nonneg y
    have HZ := Lib.hid hm
    clear hm
    cases b2
    all_goals
     go_wp2_with fail
     go_roundw
     case rel => exact ⟨3, by omega, by go_num, by (refine congrArg (Value.int .u8) (?_ : _ = _); have hz := HZ.out; simp only [if_true, if_false, Bool.false_eq_true] at hz; omega), by first | rfl | trivial⟩
     case measure => (simp [intOf]) <;> omega
   ·have kc : (w.alloc (.cells #[.bool b0, .bool b1, .bool b2, .bool b3, .bool b4, .bool b5, .bool b6, .bool b7] 137)).cell? ⟨w.heap.size, 3, none⟩ = some (.bool b3) := by rw [cell_at hh]; rfl
    have hm := HM.out 3
    have hb : x % 2 ^ 3 < 2 ^ 3 := Nat.mod_lt _ (by decide)
    rw [HT.out.2.2.2.1] at hm
    generalize x % 2 ^ 3 = y at hm hb ⊢
    have hb2 : (y : Int) < 8 := by omega
    have hb3 : (0 : Int) ≤ y := Int.natCast_nonneg y
    have HZ := Lib.hid hm
    clear hm
    cases b3
    all_goals
     go_wp2_with fail
     go_roundw
     case rel => exact ⟨4, by omega, by go_num, by (refine congrArg (Value.int .u8) (?_ : _ = _); have hz := HZ.out; simp only [if_true, if_false, Bool.false_eq_true] at hz; omega), by first | rfl | trivial⟩
     case measure => (simp [intOf]) <;> omega
   ·have kc : (w.alloc (.cells #[.bool b0, .bool b1, .bool b2, .bool b3, .bool b4, .bool b5, .bool b6, .bool b7] 137)).cell? ⟨w.heap.size, 4, none⟩ = some (.bool b4) := by rw [cell_at hh]; rfl
    have hm := HM.out 4
    have hb : x % 2 ^ 4 < 2 ^ 4 := Nat.mod_lt _ (by decide)
    rw [HT.out.2.2.2.2.1] at hm
    generalize x % 2 ^ 4 = y at hm hb ⊢
    have hb2 : (y : Int) < 16 := by omega
    have hb3 : (0 : Int) ≤ y := Int.natCast_nonneg y
    have HZ := Lib.hid hm
    clear hm
    cases b4
    all_goals
     go_wp2_with fail
     go_roundw
     case rel => exact ⟨5, by omega, by go_num, by (refine congrArg (Value.int .u8) (?_ : _ = _); have hz := HZ.out; simp only [if_true, if_false, Bool.false_eq_true] at hz; omega), by first | rfl | trivial⟩
     case measure => (simp [intOf]) <;> omega
   ·have kc : (w.alloc (.cells #[.bool b0, .bool b1, .bool b2, .bool b3, .bool b4, .bool b5, .bool b6, .bool b7] 137)).cell? ⟨w.heap.size, 5, none⟩ = some (.bool b5) := by rw [cell_at hh]; rfl
    have hm := HM.out 5
    have hb : x % 2 ^ 5 < 2 ^ 5 := Nat.mod_lt _ (by decide)
    rw [HT.out.2.2.2.2.2.1] at hm
    generalize x % 2 ^ 5 = y at hm hb ⊢
    have hb2 : (y : Int) < 32 := by omega
    have hb3 : (0 : Int) ≤ y := Int.natCast_nonneg y
    have HZ := Lib.hid hm
    clear hm
    cases b5
    all_goals
     go_wp2_with fail
     go_roundw
     case rel => exact ⟨6, by omega, by go_num, by (refine congrArg (Value.int .u8) (?_ : _ = _); have hz := HZ.out; simp only [if_true, if_false, Bool.false_eq_true] at hz; omega), by first | rfl | trivial⟩
     case measure => (simp [intOf]) <;> omega
   ·have kc : (w.alloc (.cells #[.bool b0, .bool b1, .bool b2, .bool b3, .bool b4, .bool b5, .bool b6, .bool b7] 137)).cell? ⟨w.heap.size, 6, none⟩ = some (.bool b6) := by rw [cell_at hh]; rfl
    have hm := HM.out 6
    have hb : x % 2 ^ 6 < 2 ^ 6 := Nat.mod_lt _ (by decide)
    rw [HT.out.2.2.2.2.2.2.1] at hm
    generalize x % 2 ^ 6 = y at hm hb ⊢
    have hb2 : (y : Int) < 64 := by omega
    have hb3 : (0 : Int) ≤ y := Int.natCast_nonneg y
    have HZ := Lib.hid hm
    clear hm
    cases b6
    all_goals
     go_wp2_with fail
     go_roundw
     case rel => exact ⟨7, by omega, by go_num, by (refine congrArg (Value.int .u8) (?_ : _ = _); have hz := HZ.out; simp only [if_true, if_false, Bool.false_eq_true] at hz; omega), by first | rfl | trivial⟩
     case measure => (simp [intOf]) <;> omega
   ·have kc : (w.alloc (.cells #[.bool b0, .bool b1, .bool b2, .bool b3, .bool b4, .bool b5, .bool b6, .bool b7] 137)).cell? ⟨w.heap.size, 7, none⟩ = some (.bool b7) := by rw [cell_at hh]; rfl
    have hm := HM.out 7
    have hb : x % 2 ^ 7 < 2 ^ 7 := Nat.mod_lt _ (by decide)
    rw [HT.out.2.2.2.2.2.2.2] at hm
    generalize x % 2 ^ 7 = y at hm hb ⊢
    have hb2 : (y : Int) < 128 := by omega
    have hb3 : (0 : Int) ≤ y := Int.natCast_nonneg y
    have HZ := Lib.hid hm
    clear hm
    cases b7
    all_goals
     go_wp2_with fail
     go_roundw
     case rel => exact ⟨8, by omega, by go_num, by (refine congrArg (Value.int .u8) (?_ : _ = _); have hz := HZ.out; simp only [if_true, if_false, Bool.false_eq_true] at hz; omega), by first | rfl | trivial⟩
     case measure => (simp [intOf]) <;> omega
  ·obtain rfl : k = 8 := by omega
   have e8 : x % 2 ^ 8 = x := Nat.mod_eq_of_lt HX.out
   rw [e8]
   go_wp2_with fail
   go_ret
   exact ⟨rfl, HB⟩
theorem byteOf_any (x : Nat) (hx : x < 256) (w : World) :
    Calls Tryz.prog 142 #[.agg (bits8 x).toArray] w fun e w' => e = .returned (.int .u8 x) ∧ Below w.heap.size w w' :=
 byteOf_gen x hx _ _ _ _ _ _ _ _ ⟨rfl, rfl, rfl, rfl, rfl, rfl, rfl, rfl⟩ w

def Chip.wants (c : Chip) : List Nat :=
 if c.stage = 1 then 1 :: ((if c.second then [2] else []) ++ (if c.last then [3] else [])) else if c.stage = 2 then 2 :: (if c.last then [3] else []) else if c.stage = 3 then [3] else []
def numV (L : List Nat) : List Value := L.map (fun (n : Nat) => Value.int .i64 (n : Int))
def Chip.rcells (c : Chip) (v : Value) : List Value := [.bool (bt c.asks 0), .bool (bt c.asks 1), .bool (bt c.asks 2), .bool (bt c.asks 3), .bool (bt c.asks 4), .bool (bt c.asks 5), .bool (bt c.asks 6), .bool (bt c.asks 7), .bool (bt c.served 0), .bool (bt c.served 1), .bool (bt c.served 2), .bool (bt c.served 3), .bool (bt c.served 4), .bool (bt c.served 5), .bool (bt c.served 6), .bool (bt c.served 7), .bool (bt c.masked 0), .bool (bt c.masked 1), .bool (bt c.masked 2), .bool (bt c.masked 3), .bool (bt c.masked 4), .bool (bt c.masked 5), .bool (bt c.masked 6), .bool (bt c.masked 7), .bool (bt c.up 0), .bool (bt c.up 1), .bool (bt c.up 2), .bool (bt c.up 3), .bool (bt c.up 4), .bool (bt c.up 5), .bool (bt c.up 6), .bool (bt c.up 7), .int .i64 (c.base : Nat), .bool c.told, .bool c.ends, v]
structure RP (w : World) (b : Nat) (v u : Value) (c d : Chip) : Prop where
 obj : w.heap[b]? = some (.cells (c.rcells v ++ d.rcells u).toArray 142)
 cw : RowC w 3 1 v c.wants.length (numV c.wants)
 dw : RowC w 3 1 u d.wants.length (numV d.wants)
theorem RP.lt {w : World} {b : Nat} {v u : Value} {c d : Chip} (H : RP w b v u c d) : b < w.heap.size := heap_lt H.obj
theorem RP.below {w w1 : World} {b : Nat} {v u : Value} {c d : Chip} (H : RP w b v u c d) (hb : Below w.heap.size w w1) : RP w1 b v u c d :=
 ⟨heap_below hb H.obj, H.cw.of_heap fun k hk => hb.block _ (H.cw.lt hk), H.dw.of_heap fun k hk => hb.block _ (H.dw.lt hk)⟩
def Chip.part (c : Chip) : Nat → Nat
 | 0 => c.asks
 | 1 => c.served
 | 2 => c.masked
 | _ => c.up
theorem RP.cell {w : World} {b : Nat} {v u : Value} {c d : Chip} (H : RP w b v u c d) (n f i k : Nat) (hn : n < 2) (hf : f < 4) (hi : i < 8) (hk : k = 36 * n + 8 * f + i) :
    w.cell? ⟨b, k, none⟩ = some (.bool (bt ((if n = 0 then c else d).part f) i)) := by
 rw [cell_at H.obj, hk]
 rcases (show n = 0 ∨ n = 1 by omega) with rfl | rfl <;> rcases (show f = 0 ∨ f = 1 ∨ f = 2 ∨ f = 3 by omega) with rfl | rfl | rfl | rfl <;>
  rcases (show i = 0 ∨ i = 1 ∨ i = 2 ∨ i = 3 ∨ i = 4 ∨ i = 5 ∨ i = 6 ∨ i = 7 by omega) with rfl | rfl | rfl | rfl | rfl | rfl | rfl | rfl <;> rfl
theorem RP.last4 {w : World} {b : Nat} {v u : Value} {c d : Chip} (H : RP w b v u c d) :
    w.cell? ⟨b, 32, none⟩ = some (.int .i64 (c.base : Nat)) ∧ w.cell? ⟨b, 33, none⟩ = some (.bool c.told) ∧ w.cell? ⟨b, 34, none⟩ = some (.bool c.ends) ∧ w.cell? ⟨b, 35, none⟩ = some v ∧
    w.cell? ⟨b, 68, none⟩ = some (.int .i64 (d.base : Nat)) ∧ w.cell? ⟨b, 69, none⟩ = some (.bool d.told) ∧ w.cell? ⟨b, 70, none⟩ = some (.bool d.ends) ∧ w.cell? ⟨b, 71, none⟩ = some u := by
 refine ⟨?_, ?_, ?_, ?_, ?_, ?_, ?_, ?_⟩ <;> (rw [cell_at H.obj]; rfl)
section
variable {w : World} {b : Nat} {v u : Value} {c d : Chip}
theorem below2 (w : World) (a b : Obj) : Below w.heap.size w ((w.alloc a).alloc b) := by
 have B1 : Below w.heap.size w (w.alloc a) := (Below.refl _ _).alloc (Nat.le_refl _) _
 exact B1.alloc B1.size _
theorem cells8 {W : World} {k : Nat} {T : TypeId} {a0 a1 a2 a3 a4 a5 a6 a7 : Value} (h : W.heap[k]? = some (.cells #[a0, a1, a2, a3, a4, a5, a6, a7] T)) :
    W.cell? ⟨k, 0, none⟩ = some a0 ∧ W.cell? ⟨k, 1, none⟩ = some a1 ∧ W.cell? ⟨k, 2, none⟩ = some a2 ∧ W.cell? ⟨k, 3, none⟩ = some a3 ∧ W.cell? ⟨k, 4, none⟩ = some a4 ∧ W.cell? ⟨k, 5, none⟩ = some a5 ∧ W.cell? ⟨k, 6, none⟩ = some a6 ∧ W.cell? ⟨k, 7, none⟩ = some a7 := by
 refine ⟨?_, ?_, ?_, ?_, ?_, ?_, ?_, ?_⟩ <;> (rw [cell_at h]; rfl)
theorem rasking1 (H : RP w b v u c d) :
    Calls Tryz.prog 91 #[.pointer (some ⟨b, 0, none⟩), .int .i64 1] w fun e w' => e = .returned (.agg (bits8 d.asks).toArray) ∧ Below w.heap.size w w' := by
 have k0 : w.cell? ⟨b, 36, none⟩ = some (.bool (bt d.asks 0)) := H.cell 1 0 0 36 (by decide) (by decide) (by decide) rfl
 have k1 : w.cell? ⟨b, 37, none⟩ = some (.bool (bt d.asks 1)) := H.cell 1 0 1 37 (by decide) (by decide) (by decide) rfl
 have k2 : w.cell? ⟨b, 38, none⟩ = some (.bool (bt d.asks 2)) := H.cell 1 0 2 38 (by decide) (by decide) (by decide) rfl
 have k3 : w.cell? ⟨b, 39, none⟩ = some (.bool (bt d.asks 3)) := H.cell 1 0 3 39 (by decide) (by decide) (by decide) rfl
 have k4 : w.cell? ⟨b, 40, none⟩ = some (.bool (bt d.asks 4)) := H.cell 1 0 4 40 (by decide) (by decide) (by decide) rfl
 have k5 : w.cell? ⟨b, 41, none⟩ = some (.bool (bt d.asks 5)) := H.cell 1 0 5 41 (by decide) (by decide) (by decide) rfl
 have k6 : w.cell? ⟨b, 42, none⟩ = some (.bool (bt d.asks 6)) := H.cell 1 0 6 42 (by decide) (by decide) (by decide) rfl
 have k7 : w.cell? ⟨b, 43, none⟩ = some (.bool (bt d.asks 7)) := H.cell 1 0 7 43 (by decide) (by decide) (by decide) rfl
 have kl := H.lt
 clear H
 go_enter Tryz.func91, Tryz.ntmps91
 go_wp2_with fail
 refine bodyPost_ret (v := .agg (bits8 d.asks).toArray) (by simp [results, Tryz.results91, go_sem, bits8]) rfl ⟨rfl, below2 _ _ _⟩
def sets8 (W : World) (k : Nat) (a0 a1 a2 a3 a4 a5 a6 a7 : Value) : World :=
 (((((((W.setCell ⟨k, 0, none⟩ a0).setCell ⟨k, 1, none⟩ a1).setCell ⟨k, 2, none⟩ a2).setCell ⟨k, 3, none⟩ a3).setCell ⟨k, 4, none⟩ a4).setCell ⟨k, 5, none⟩ a5).setCell ⟨k, 6, none⟩ a6).setCell ⟨k, 7, none⟩ a7
theorem sets8_heap (W : World) (k : Nat) {T : TypeId} {x0 x1 x2 x3 x4 x5 x6 x7 a0 a1 a2 a3 a4 a5 a6 a7 : Value} (h : W.heap[k]? = some (.cells #[x0, x1, x2, x3, x4, x5, x6, x7] T)) :
    (sets8 W k a0 a1 a2 a3 a4 a5 a6 a7).heap[k]? = some (.cells #[a0, a1, a2, a3, a4, a5, a6, a7] T) := by
 unfold sets8
 simp only [heap_set_map, h, Option.map_some, putObj_cells]
 rfl
theorem sets8_below {B k : Nat} {w W : World} (h : Below B w W) (hk : B ≤ k) (a0 a1 a2 a3 a4 a5 a6 a7 : Value) : Below B w (sets8 W k a0 a1 a2 a3 a4 a5 a6 a7) := by
 unfold sets8
 exact (((((((h.setCell hk _).setCell hk _).setCell hk _).setCell hk _).setCell hk _).setCell hk _).setCell hk _).setCell hk _
def RT (a m s k : Nat) : Prop := ∀ j, j < k → bt s j = false ∧ (bt a j && !bt m j) = false
def tellsR (a m s : Nat) : Int := if isTold a m s then (tz8 (left a m) : Int) else -1
section
variable {a m s k : Nat} (ha : a < 256) (hm : m < 256) (hs : s < 256) (R : RT a m s k)
include ha hm hs R
omit hs in
theorem rt_left (hk : k ≤ 8) : k ≤ tz8 (left a m) := tz8_ge (left_lt ha) hk fun j hj => by rw [bit_left a m j hm (by omega)]; exact (R j hj).2
theorem rt_serve (hk : k < 8) (h : bt s k = true) : tellsR a m s = -1 := by
 have h1 : tz8 s = k := tz8_is hs hk h fun j hj => (R j hj).1
 have h2 := rt_left ha hm R (by omega)
 have h3 : isTold a m s = false := by
  unfold isTold
  refine decide_eq_false ?_
  change ¬ tz8 (left a m) < _
  omega
 unfold tellsR
 rw [h3]; rfl
theorem rt_tell (hk : k < 8) (h : bt s k = false) (h1 : bt a k = true) (h2 : bt m k = false) : tellsR a m s = k := by
 have e1 : tz8 (left a m) = k := tz8_is (left_lt ha) hk (by rw [bit_left a m k hm hk]; show (bt a k && !bt m k) = true; rw [h1, h2]; rfl) fun j hj => by rw [bit_left a m j hm (by omega)]; exact (R j hj).2
 have e2 : k + 1 ≤ tz8 s := tz8_ge hs (by omega) fun j hj => by
  rcases (show j < k ∨ j = k by omega) with h | rfl
  ·exact (R j h).1
  ·exact h
 have h3 : isTold a m s = true := by
  unfold isTold
  refine decide_eq_true ?_
  change tz8 (left a m) < _
  omega
 unfold tellsR
 rw [h3, e1]; rfl
theorem rt_end (hk : k = 8) : tellsR a m s = -1 := by
 subst hk
 have h2 := rt_left ha hm R (by omega)
 have h1 := tz8_le s hs
 have h3 : isTold a m s = false := by
  unfold isTold
  refine decide_eq_false ?_
  change ¬ tz8 (left a m) < _
  omega
 unfold tellsR
 rw [h3]; rfl
omit ha hm hs in
theorem rt_up (h : bt s k = false) (h2 : (bt a k && !bt m k) = false) : RT a m s (k + 1) := fun j hj => by
 rcases (show j < k ∨ j = k by omega) with h | rfl
 ·exact R j h
 ·exact ⟨h, h2⟩
end
theorem cell_bits {W : World} {k : Nat} {T : TypeId} {x : Nat} (h : W.heap[k]? = some (.cells (bits8 x).toArray T)) (i : Nat) (hi : i < 8) : W.cell? ⟨k, i, none⟩ = some (.bool (bt x i)) := by
 rw [cell_at h]
 rcases (show i = 0 ∨ i = 1 ∨ i = 2 ∨ i = 3 ∨ i = 4 ∨ i = 5 ∨ i = 6 ∨ i = 7 by omega) with rfl | rfl | rfl | rfl | rfl | rfl | rfl | rfl <;> rfl
theorem rtells1 (H : RP w b v u c d) (hc : c.ok) (hd : d.ok) :
    Calls Tryz.prog 52 #[.pointer (some ⟨b, 0, none⟩), .int .i64 1] w fun e w' => e = .returned (.int .i64 (tellsR d.asks d.masked d.served)) ∧ Below w.heap.size w w' := by
 have HA := Lib.hid (hd.asks)
 have HM := Lib.hid hd.masked
 have HS := Lib.hid hd.served
 have HC := Lib.hid (And.intro hc hd)
 clear hc hd
 go_enter Tryz.func52, Tryz.ntmps52
 go_wp2_with fail
 refine (rasking1 H).mono ?_
 rintro e w1 ⟨rfl, B1⟩
 unfold bits8
 go_wp2_with fail
 have B2 : Below w.heap.size w (w1.alloc (.cells (bits8 (d.asks)).toArray 137)) := B1.alloc B1.size _
 have hq := heap_new w1 (.cells (bits8 (d.asks)).toArray 137)
 have HP := H.below B2
 have hql : w1.heap.size < (w1.alloc (.cells (bits8 (d.asks)).toArray 137)).heap.size := heap_lt hq
 have HPl := HP.lt
 have c1 : ∀ i, i < 8 → (w1.alloc (.cells (bits8 (d.asks)).toArray 137)).cell? ⟨w1.heap.size, i, none⟩ = some (.bool (bt (d.asks) i)) := fun i hi => cell_bits hq i hi
 have c2 : ∀ i, i < 8 → (w1.alloc (.cells (bits8 (d.asks)).toArray 137)).cell? ⟨b, 44 + i, none⟩ = some (.bool (bt d.served i)) := fun i hi => HP.cell 1 1 i _ (by decide) (by decide) hi (by omega)
 have c3 : ∀ i, i < 8 → (w1.alloc (.cells (bits8 (d.asks)).toArray 137)).cell? ⟨b, 52 + i, none⟩ = some (.bool (bt d.masked i)) := fun i hi => HP.cell 1 2 i _ (by decide) (by decide) hi (by omega)
 unfold bits8 at c1 c2 c3 B2 hql HPl
 clear HP hq H B1
 generalize w1.alloc _ = W at *
 generalize w1.heap.size = q at *
 go_loopw [6] (fun i wc => ∃ k : Nat, k ≤ 8 ∧ i = .int .i64 k ∧ RT (d.asks) d.masked d.served k ∧ wc = W) (fun i _ => 8 - (intOf i).toNat)
 case atStart => exact ⟨0, by omega, rfl, fun j hj => by omega, rfl⟩
 case round =>
  obtain ⟨k, hk, rfl, R, rfl⟩ := hrel
  have HR := Lib.hid R
  clear R
  by_cases h8 : k < 8
  ·have p1 : (0 : Int) ≤ (k : Int) := by omega
   have p2 : (k : Int) < 8 := by omega
   have d1 := c1 k h8
   have d2 := c2 k h8
   have d3 := c3 k h8
   clear c1 c2 c3
   cases hs : bt d.served k
   ·rw [hs] at d2
    have H1 := Lib.hid hs
    clear hs
    cases ha : bt (d.asks) k <;> cases hm : bt d.masked k
    all_goals
     rw [ha] at d1
     rw [hm] at d3
     have H2 := Lib.hid ha
     have H3 := Lib.hid hm
     clear ha hm
     go_wp2_with fail
     first
      | (go_ret; exact ⟨by rw [rt_tell HA.out HM.out HS.out HR.out h8 H1.out H2.out H3.out]; rfl, B2⟩)
      | (go_roundw
         case rel => exact ⟨k + 1, by omega, by go_num, rt_up HR.out H1.out (by rw [H2.out, H3.out]; rfl), by first | rfl | trivial⟩
         case measure => (simp [intOf]) <;> omega)
   ·rw [hs] at d2
    have H1 := Lib.hid hs
    clear hs
    go_wp2_with fail
    go_ret
    exact ⟨by rw [rt_serve HA.out HM.out HS.out HR.out h8 H1.out]; rfl, B2⟩
  ·have p2 : (8 : Int) ≤ k := by omega
   have e8 : k = 8 := by omega
   go_wp2_with fail
   go_ret
   exact ⟨by rw [rt_end HA.out HM.out HS.out HR.out e8]; rfl, B2⟩
theorem tellsR_ge (a m s : Nat) : decide (0 ≤ tellsR a m s) = isTold a m s := by
 unfold tellsR
 cases isTold a m s
 ·rfl
 ·rw [if_pos rfl]; exact decide_eq_true (Int.natCast_nonneg _)
theorem ask0_bits (c d : Chip) : bits8 (ask0 c d) = [.bool (bt c.asks 0), .bool (bt c.asks 1), .bool (isTold d.asks d.masked d.served), .bool (bt c.asks 3), .bool (bt c.asks 4), .bool (bt c.asks 5), .bool (bt c.asks 6), .bool (bt c.asks 7)] := by
 unfold bits8 bt
 rw [bit_ask0 c d 0 (by decide), bit_ask0 c d 1 (by decide), bit_ask0 c d 2 (by decide), bit_ask0 c d 3 (by decide), bit_ask0 c d 4 (by decide), bit_ask0 c d 5 (by decide), bit_ask0 c d 6 (by decide), bit_ask0 c d 7 (by decide)]
 rfl
theorem rasking0 (H : RP w b v u c d) (hc : c.ok) (hd : d.ok) :
    Calls Tryz.prog 91 #[.pointer (some ⟨b, 0, none⟩), .int .i64 0] w fun e w' => e = .returned (.agg (bits8 (ask0 c d)).toArray) ∧ Below w.heap.size w w' := by
 have H1 := rtells1 (w := w) H hc hd
 rw [ask0_bits, ← tellsR_ge]
 have h1 := fun (W : World) (HP : RP W b v u c d) => rtells1 HP hc hd
 generalize tellsR d.asks d.masked d.served = t at h1 ⊢
 have HT := Lib.hid h1
 clear h1 H1
 have k0 : w.cell? ⟨b, 0, none⟩ = some (.bool (bt c.asks 0)) := H.cell 0 0 0 0 (by decide) (by decide) (by decide) rfl
 have k1 : w.cell? ⟨b, 1, none⟩ = some (.bool (bt c.asks 1)) := H.cell 0 0 1 1 (by decide) (by decide) (by decide) rfl
 have k2 : w.cell? ⟨b, 2, none⟩ = some (.bool (bt c.asks 2)) := H.cell 0 0 2 2 (by decide) (by decide) (by decide) rfl
 have k3 : w.cell? ⟨b, 3, none⟩ = some (.bool (bt c.asks 3)) := H.cell 0 0 3 3 (by decide) (by decide) (by decide) rfl
 have k4 : w.cell? ⟨b, 4, none⟩ = some (.bool (bt c.asks 4)) := H.cell 0 0 4 4 (by decide) (by decide) (by decide) rfl
 have k5 : w.cell? ⟨b, 5, none⟩ = some (.bool (bt c.asks 5)) := H.cell 0 0 5 5 (by decide) (by decide) (by decide) rfl
 have k6 : w.cell? ⟨b, 6, none⟩ = some (.bool (bt c.asks 6)) := H.cell 0 0 6 6 (by decide) (by decide) (by decide) rfl
 have k7 : w.cell? ⟨b, 7, none⟩ = some (.bool (bt c.asks 7)) := H.cell 0 0 7 7 (by decide) (by decide) (by decide) rfl
 have kl := H.lt
 have HH := Lib.hid H
 have HC := Lib.hid (And.intro hc hd)
 clear H hc hd
 go_enter Tryz.func91, Tryz.ntmps91
 go_wp2_with fail
 refine (HT.out _ (HH.out.below (below2 w _ _))).mono ?_
 rintro e w1 ⟨rfl, B1⟩
 have g1 : w1.heap[w.heap.size]? = some (.cells #[.bool false, .bool false, .bool false, .bool false, .bool false, .bool false, .bool false, .bool false] 137) := heap_below B1 (heap_alloc_lt (heap_new w _))
 have g2 : w1.heap[w.heap.size + 1]? = some (.cells #[.bool (bt c.asks 0), .bool (bt c.asks 1), .bool (bt c.asks 2), .bool (bt c.asks 3), .bool (bt c.asks 4), .bool (bt c.asks 5), .bool (bt c.asks 6), .bool (bt c.asks 7)] 137) := heap_below B1 (by rw [show w.heap.size + 1 = (w.alloc (.cells #[.bool false, .bool false, .bool false, .bool false, .bool false, .bool false, .bool false, .bool false] 137)).heap.size by rw [World.size_alloc]]; exact heap_new _ _)
 have B2 : Below w.heap.size w w1 := (below2 w _ _).trans (B1.mono (below2 w _ _).size)
 have GG := Lib.hid (And.intro g1 g2)
 have gl1 := heap_lt g1
 have gl2 := heap_lt g2
 have gf1 : ∀ k, w1.frozen? ⟨w.heap.size, k, none⟩ = false := fun k => free_at g1
 have gf2 : ∀ k, w1.frozen? ⟨w.heap.size + 1, k, none⟩ = false := fun k => free_at g2
 obtain ⟨y0, y1, y2, y3, y4, y5, y6, y7⟩ := cells8 g2
 obtain ⟨z0, z1, z2, z3, z4, z5, z6, z7⟩ := cells8 g1
 clear g1 g2 B1 k0 k1 k2 k3 k4 k5 k6 k7
 go_wp2_with fail
 have hx : (sets8 (w1.setCell ⟨w.heap.size + 1, 2, none⟩ (.bool (decide (0 ≤ t)))) w.heap.size (.bool (bt c.asks 0)) (.bool (bt c.asks 1)) (.bool (decide (0 ≤ t))) (.bool (bt c.asks 3)) (.bool (bt c.asks 4)) (.bool (bt c.asks 5)) (.bool (bt c.asks 6)) (.bool (bt c.asks 7))).heap[w.heap.size]? = some (.cells #[.bool (bt c.asks 0), .bool (bt c.asks 1), .bool (decide (0 ≤ t)), .bool (bt c.asks 3), .bool (bt c.asks 4), .bool (bt c.asks 5), .bool (bt c.asks 6), .bool (bt c.asks 7)] 137) := by
  rw [sets8_heap _ _ (by rw [heap_set_other _ (show w.heap.size ≠ w.heap.size + 1 by omega)]; exact GG.out.1)]
 have hB := sets8_below (B2.setCell (p := ⟨w.heap.size + 1, 2, none⟩) (Nat.le_succ _) (.bool (decide (0 ≤ t)))) (Nat.le_refl _) (.bool (bt c.asks 0)) (.bool (bt c.asks 1)) (.bool (decide (0 ≤ t))) (.bool (bt c.asks 3)) (.bool (bt c.asks 4)) (.bool (bt c.asks 5)) (.bool (bt c.asks 6)) (.bool (bt c.asks 7))
 change bodyPost _ _ _ _ _ (sets8 (w1.setCell ⟨w.heap.size + 1, 2, none⟩ (.bool (decide (0 ≤ t)))) w.heap.size (.bool (bt c.asks 0)) (.bool (bt c.asks 1)) (.bool (decide (0 ≤ t))) (.bool (bt c.asks 3)) (.bool (bt c.asks 4)) (.bool (bt c.asks 5)) (.bool (bt c.asks 6)) (.bool (bt c.asks 7)))
 generalize sets8 _ _ _ _ _ _ _ _ _ _ = Wf at *
 clear y0 y1 y2 y3 y4 y5 y6 y7
 obtain ⟨y0, y1, y2, y3, y4, y5, y6, y7⟩ := cells8 hx
 refine bodyPost_ret (v := .agg #[.bool (bt c.asks 0), .bool (bt c.asks 1), .bool (decide (0 ≤ t)), .bool (bt c.asks 3), .bool (bt c.asks 4), .bool (bt c.asks 5), .bool (bt c.asks 6), .bool (bt c.asks 7)]) (by simp [results, Tryz.results91, go_sem, y0, y1, y2, y3, y4, y5, y6, y7]) rfl ⟨rfl, hB⟩
theorem rtells0 (H : RP w b v u c d) (hc : c.ok) (hd : d.ok) :
    Calls Tryz.prog 52 #[.pointer (some ⟨b, 0, none⟩), .int .i64 0] w fun e w' => e = .returned (.int .i64 (tellsR (ask0 c d) c.masked c.served)) ∧ Below w.heap.size w w' := by
 have HA := Lib.hid (ask0_lt c d hc.asks)
 have HM := Lib.hid hc.masked
 have HS := Lib.hid hc.served
 have HC := Lib.hid (And.intro hc hd)
 clear hc hd
 go_enter Tryz.func52, Tryz.ntmps52
 go_wp2_with fail
 refine (rasking0 H HC.out.1 HC.out.2).mono ?_
 rintro e w1 ⟨rfl, B1⟩
 unfold bits8
 go_wp2_with fail
 have B2 : Below w.heap.size w (w1.alloc (.cells (bits8 (ask0 c d)).toArray 137)) := B1.alloc B1.size _
 have hq := heap_new w1 (.cells (bits8 (ask0 c d)).toArray 137)
 have HP := H.below B2
 have hql : w1.heap.size < (w1.alloc (.cells (bits8 (ask0 c d)).toArray 137)).heap.size := heap_lt hq
 have HPl := HP.lt
 have c1 : ∀ i, i < 8 → (w1.alloc (.cells (bits8 (ask0 c d)).toArray 137)).cell? ⟨w1.heap.size, i, none⟩ = some (.bool (bt (ask0 c d) i)) := fun i hi => cell_bits hq i hi
 have c2 : ∀ i, i < 8 → (w1.alloc (.cells (bits8 (ask0 c d)).toArray 137)).cell? ⟨b, 8 + i, none⟩ = some (.bool (bt c.served i)) := fun i hi => HP.cell 0 1 i _ (by decide) (by decide) hi (by omega)
 have c3 : ∀ i, i < 8 → (w1.alloc (.cells (bits8 (ask0 c d)).toArray 137)).cell? ⟨b, 16 + i, none⟩ = some (.bool (bt c.masked i)) := fun i hi => HP.cell 0 2 i _ (by decide) (by decide) hi (by omega)
 unfold bits8 at c1 c2 c3 B2 hql HPl
 clear HP hq H B1
 generalize w1.alloc _ = W at *
 generalize w1.heap.size = q at *
 go_loopw [6] (fun i wc => ∃ k : Nat, k ≤ 8 ∧ i = .int .i64 k ∧ RT (ask0 c d) c.masked c.served k ∧ wc = W) (fun i _ => 8 - (intOf i).toNat)
 case atStart => exact ⟨0, by omega, rfl, fun j hj => by omega, rfl⟩
 case round =>
  obtain ⟨k, hk, rfl, R, rfl⟩ := hrel
  have HR := Lib.hid R
  clear R
  by_cases h8 : k < 8
  ·have p1 : (0 : Int) ≤ (k : Int) := by omega
   have p2 : (k : Int) < 8 := by omega
   have d1 := c1 k h8
   have d2 := c2 k h8
   have d3 := c3 k h8
   clear c1 c2 c3
   cases hs : bt c.served k
   ·rw [hs] at d2
    have H1 := Lib.hid hs
    clear hs
    cases ha : bt (ask0 c d) k <;> cases hm : bt c.masked k
    all_goals
     rw [ha] at d1
     rw [hm] at d3
     have H2 := Lib.hid ha
     have H3 := Lib.hid hm
     clear ha hm
     go_wp2_with fail
     first
      | (go_ret; exact ⟨by rw [rt_tell HA.out HM.out HS.out HR.out h8 H1.out H2.out H3.out]; rfl, B2⟩)
      | (go_roundw
         case rel => exact ⟨k + 1, by omega, by go_num, rt_up HR.out H1.out (by rw [H2.out, H3.out]; rfl), by first | rfl | trivial⟩
         case measure => (simp [intOf]) <;> omega)
   ·rw [hs] at d2
    have H1 := Lib.hid hs
    clear hs
    go_wp2_with fail
    go_ret
    exact ⟨by rw [rt_serve HA.out HM.out HS.out HR.out h8 H1.out]; rfl, B2⟩
  ·have p2 : (8 : Int) ≤ k := by omega
   have e8 : k = 8 := by omega
   go_wp2_with fail
   go_ret
   exact ⟨by rw [rt_end HA.out HM.out HS.out HR.out e8]; rfl, B2⟩
end
end Go.Proofs.YtojmpdddfnkffaaGreat.Pic

/- pic: the document's pair: New, Pending, In. -/
namespace Go.Proofs.YtojmpdddfnkffaaGreat.Pic
open Go.RowKit
set_option linter.unusedVariables false

theorem info36 : (Tryz.prog.info? 139).map (·.size) = some 36 := by kernel_rfl
def zero36 : List Value := chip0.rcells (.slice none 0 0)
set_option maxRecDepth 100000 in
theorem zeroChip (w : World) : (zeroValue 139).run Tryz.prog w = .ok (.agg zero36.toArray) w := by kernel_rfl
theorem rc_one (c : Chip) {v : Value} (hv : v.oneCell' = true) : (c.rcells v).toArray.all (·.oneCell') = true := by
 refine all_oneCell_toArray ?_
 intro x hx
 simp only [Chip.rcells, List.mem_cons, List.not_mem_nil, or_false] at hx
 rcases hx with rfl | rfl | rfl | rfl | rfl | rfl | rfl | rfl | rfl | rfl | rfl | rfl | rfl | rfl | rfl | rfl | rfl | rfl | rfl | rfl | rfl | rfl | rfl | rfl | rfl | rfl | rfl | rfl | rfl | rfl | rfl | rfl | rfl | rfl | rfl | rfl <;> first | rfl | exact hv
theorem RowC.one {w : World} {e : TypeId} {size n : Nat} {v : Value} {xs : List Value} (h : RowC w e size v n xs) : v.oneCell' = true := by
 obtain ⟨a, c, rfl⟩ := h.len; rfl
theorem RP.r0 {w : World} {b : Nat} {v u : Value} {c d : Chip} (H : RP w b v u c d) : w.rangeAt b 0 (c.rcells v) := fun j x hj => by
 have hl : j < 36 := (List.getElem?_eq_some_iff.1 hj).1
 rw [cell_at H.obj, Nat.zero_add, List.getElem?_toArray, List.getElem?_append_left hl]; exact hj
theorem RP.r1 {w : World} {b : Nat} {v u : Value} {c d : Chip} (H : RP w b v u c d) : w.rangeAt b 36 (d.rcells u) := fun j x hj => by
 rw [cell_at H.obj, List.getElem?_toArray, show 36 = (c.rcells v).length from rfl, List.getElem?_append_right (by omega), Nat.add_sub_cancel_left]; exact hj
theorem RP.there {w : World} {b : Nat} {v u : Value} {c d : Chip} (H : RP w b v u c d) (o n : Nat) (h : o + n ≤ 72) : w.there b o n := fun j hj => by
 refine ⟨?_, free_at H.obj⟩
 rw [cell_at H.obj, Array.getElem?_eq_getElem (show o + j < (c.rcells v ++ d.rcells u).toArray.size by show _ < 72; omega)]; rfl
set_option maxRecDepth 100000 in
theorem zero72 (w : World) : (zeroValue 142).run Tryz.prog w = .ok (.agg #[.bool false, .bool false, .bool false, .bool false, .bool false, .bool false, .bool false, .bool false, .bool false, .bool false, .bool false, .bool false, .bool false, .bool false, .bool false, .bool false, .bool false, .bool false, .bool false, .bool false, .bool false, .bool false, .bool false, .bool false, .bool false, .bool false, .bool false, .bool false, .bool false, .bool false, .bool false, .bool false, .int .i64 0, .bool false, .bool false, .slice none 0 0, .bool false, .bool false, .bool false, .bool false, .bool false, .bool false, .bool false, .bool false, .bool false, .bool false, .bool false, .bool false, .bool false, .bool false, .bool false, .bool false, .bool false, .bool false, .bool false, .bool false, .bool false, .bool false, .bool false, .bool false, .bool false, .bool false, .bool false, .bool false, .bool false, .bool false, .bool false, .bool false, .int .i64 0, .bool false, .bool false, .slice none 0 0]) w := by kernel_rfl
theorem RP.new (w : World) : RP (w.alloc (.cells (chip0.rcells (.slice none 0 0) ++ chip0.rcells (.slice none 0 0)).toArray 142)) w.heap.size (.slice none 0 0) (.slice none 0 0) chip0 chip0 :=
 ⟨heap_new w _, RowC.nil _ _ _, RowC.nil _ _ _⟩
theorem rnew_any (w : World) : Calls Tryz.prog 41 #[] w fun e w' => e = .returned (.pointer (some ⟨w.heap.size, 0, none⟩)) ∧ RP w' w.heap.size (.slice none 0 0) (.slice none 0 0) chip0 chip0 ∧ Below w.heap.size w w' := by
 have hz := fun w => zero72 w
 go_enter Tryz.func41, Tryz.ntmps41
 go_wp2_with fail
 go_ret
 exact ⟨rfl, RP.new w, (Below.refl _ _).alloc (Nat.le_refl _) _⟩
section
variable {w : World} {b : Nat} {v u : Value} {c d : Chip}
theorem rpending_any (H : RP w b v u c d) (hc : c.ok) (hd : d.ok) :
    Calls Tryz.prog 12 #[.pointer (some ⟨b, 0, none⟩)] w fun e w' => e = .returned (.bool (told0 c d)) ∧ Below w.heap.size w w' := by
 have HT := Lib.hid (tellsR_ge (ask0 c d) c.masked c.served)
 go_enter Tryz.func12, Tryz.ntmps12
 go_wp2_with fail
 refine (rtells0 H hc hd).mono ?_
 rintro e w1 ⟨rfl, B1⟩
 go_wp2_with fail
 go_ret
 exact ⟨by unfold told0; rw [← HT.out]; rfl, B1⟩

theorem heap_row {w : World} {g : Nat} {old cs : Array Value} {T : TypeId} (h : w.heap[g]? = some (.cells old T (0, 0))) : (w.setRow g cs).heap[g]? = some (.cells cs T (0, 0)) := setRow_heap w _ _ _ _ _ h

structure ChipAt (w : World) (g : Nat) (c : Chip) (v : Value) : Prop where
 obj : w.heap[g]? = some (.cells (c.rcells v).toArray 139 (0, 0))
theorem ChipAt.lt {w : World} {g : Nat} (h : ChipAt w g c v) : g < w.heap.size := heap_lt h.obj
theorem ChipAt.free {w : World} {g : Nat} (h : ChipAt w g c v) (k : Nat) : w.frozen? ⟨g, k, none⟩ = false := free_at h.obj
theorem ChipAt.below {w w1 : World} {g B : Nat} (h : ChipAt w g c v) (hb : Below B w w1) (hg : g < B) : ChipAt w1 g c v := ⟨(hb.block g hg).trans h.obj⟩
theorem ChipAt.row {w : World} {g : Nat} (h : ChipAt w g c v) : w.rangeAt g 0 (c.rcells v) := fun j x hj => by
 rw [cell_at h.obj, Nat.zero_add, List.getElem?_toArray]; exact hj
theorem ChipAt.bits {w : World} {g : Nat} (h : ChipAt w g c v) (f : Nat) (hf : f < 4) : w.rangeAt g (8 * f) (bits8 (c.part f)) := fun j x hj => by
 have hl : j < 8 := (List.getElem?_eq_some_iff.1 hj).1
 rw [cell_at h.obj, ← hj]
 rcases (show f = 0 ∨ f = 1 ∨ f = 2 ∨ f = 3 by omega) with rfl | rfl | rfl | rfl <;>
  rcases (show j = 0 ∨ j = 1 ∨ j = 2 ∨ j = 3 ∨ j = 4 ∨ j = 5 ∨ j = 6 ∨ j = 7 by omega) with rfl | rfl | rfl | rfl | rfl | rfl | rfl | rfl <;> rfl
theorem ChipAt.bit {w : World} {g : Nat} (h : ChipAt w g c v) (f i k : Nat) (hf : f < 4) (hi : i < 8) (hk : k = 8 * f + i) : w.cell? ⟨g, k, none⟩ = some (.bool (bt (c.part f) i)) := by
 rw [hk]
 refine h.bits f hf i _ ?_
 rcases (show i = 0 ∨ i = 1 ∨ i = 2 ∨ i = 3 ∨ i = 4 ∨ i = 5 ∨ i = 6 ∨ i = 7 by omega) with rfl | rfl | rfl | rfl | rfl | rfl | rfl | rfl <;> rfl
theorem ChipAt.rest {w : World} {g : Nat} (h : ChipAt w g c v) : w.cell? ⟨g, 32, none⟩ = some (.int .i64 (c.base : Nat)) ∧ w.cell? ⟨g, 33, none⟩ = some (.bool c.told) ∧ w.cell? ⟨g, 34, none⟩ = some (.bool c.ends) ∧ w.cell? ⟨g, 35, none⟩ = some v := by
 refine ⟨?_, ?_, ?_, ?_⟩ <;> (rw [cell_at h.obj]; rfl)
theorem info8 : (Tryz.prog.info? 137).map (·.size) = some 8 := by kernel_rfl
theorem chip_copied (w : World) : ChipAt ((w.alloc (.cells zero36.toArray 139)).setRow w.heap.size (c.rcells v).toArray) w.heap.size c v ∧
    Below w.heap.size w ((w.alloc (.cells zero36.toArray 139)).setRow w.heap.size (c.rcells v).toArray) :=
 ⟨⟨heap_row (heap_new w _)⟩, below_setRow ((Below.refl _ _).alloc (Nat.le_refl _) _) (Nat.le_refl _) _⟩
theorem rin_0t (H : RP w b v u c d) (hc : c.ok) (hd : d.ok) (ht : c.told = true) :
    Calls Tryz.prog 119 #[.pointer (some ⟨b, 0, none⟩), .int .i64 0] w fun e w' => e = .returned (.tuple #[.int .u8 (inv c d 0 : Nat), .int .i64 0]) ∧ Below w.heap.size w w' := by
 have hz := fun w => zeroChip w
 have HR := Lib.hid H.r0
 have HO := Lib.hid (rc_one c (RowC.one H.cw))
 have HN := Lib.hid (heap_new w (.cells zero36.toArray 139))
 have HC := Lib.hid (And.intro hc hd)
 have HH := Lib.hid H
 have HX := Lib.hid (chip_copied (c := c) (v := v) w)
 have HT := Lib.hid ht
 clear ht
 clear H hc hd
 go_enter Tryz.func119, Tryz.ntmps119
 go_upto_region 4 with (first | (refine wpList_load_mid rfl _ _ rfl b 0 rfl (c.rcells v) _ HR.out Tryz.underlying139 rfl info36 ?_) | (refine wpList_store_row rfl _ _ _ rfl w.heap.size (c.rcells v).toArray rfl rfl _ _ HN.out info36 rfl HO.out ?_))
 obtain ⟨A, B⟩ := HX.out
 change Code.wp _ _ _ _ ((w.alloc (.cells zero36.toArray 139)).setRow w.heap.size (c.rcells v).toArray)
 have HP := Lib.hid (HH.out.below B)
 clear HX HN HR HO hz
 generalize (w.alloc (.cells zero36.toArray 139)).setRow w.heap.size (c.rcells v).toArray = W at *
 have hq := A.lt
 have HA := Lib.hid A
 have HB := Lib.hid B
 obtain ⟨k32, k33, k34, -⟩ := A.rest
 clear A B
 rw [HT.out] at k33
 go_wp2_with (refine wpList_load_mid rfl _ _ rfl w.heap.size 8 rfl (bits8 (c.part 1)) _ (HA.out.bits 1 (by decide)) Tryz.underlying137 rfl info8 ?_)
 refine (byteOf_any (c.part 1) HC.out.1.served _).mono ?_
 rintro e w1 ⟨rfl, B1⟩
 have B2 := HB.out.trans (B1.mono HB.out.size)
 clear B1 k32 k33 k34
 go_wp2_with fail
 go_ret2
 exact ⟨by unfold inv inv0; rw [HT.out]; rfl, B2⟩
theorem rin_0f (H : RP w b v u c d) (hc : c.ok) (hd : d.ok) (ht : c.told = false) :
    Calls Tryz.prog 119 #[.pointer (some ⟨b, 0, none⟩), .int .i64 0] w fun e w' => e = .returned (.tuple #[.int .u8 (inv c d 0 : Nat), .int .i64 0]) ∧ Below w.heap.size w w' := by
 have hz := fun w => zeroChip w
 have HR := Lib.hid H.r0
 have HO := Lib.hid (rc_one c (RowC.one H.cw))
 have HN := Lib.hid (heap_new w (.cells zero36.toArray 139))
 have HC := Lib.hid (And.intro hc hd)
 have HH := Lib.hid H
 have HX := Lib.hid (chip_copied (c := c) (v := v) w)
 have HT := Lib.hid ht
 clear ht
 clear H hc hd
 go_enter Tryz.func119, Tryz.ntmps119
 go_upto_region 4 with (first | (refine wpList_load_mid rfl _ _ rfl b 0 rfl (c.rcells v) _ HR.out Tryz.underlying139 rfl info36 ?_) | (refine wpList_store_row rfl _ _ _ rfl w.heap.size (c.rcells v).toArray rfl rfl _ _ HN.out info36 rfl HO.out ?_))
 obtain ⟨A, B⟩ := HX.out
 change Code.wp _ _ _ _ ((w.alloc (.cells zero36.toArray 139)).setRow w.heap.size (c.rcells v).toArray)
 have HP := Lib.hid (HH.out.below B)
 clear HX HN HR HO hz
 generalize (w.alloc (.cells zero36.toArray 139)).setRow w.heap.size (c.rcells v).toArray = W at *
 have hq := A.lt
 have HA := Lib.hid A
 have HB := Lib.hid B
 obtain ⟨k32, k33, k34, -⟩ := A.rest
 clear A B
 rw [HT.out] at k33
 go_wp2_with fail
 refine (rasking0 HP.out HC.out.1 HC.out.2).mono ?_
 rintro e w1 ⟨rfl, B1⟩
 have B2 := HB.out.trans (B1.mono HB.out.size)
 clear B1 k32 k33 k34
 go_wp2_with fail
 refine (byteOf_any (ask0 c d) (ask0_lt c d HC.out.1.asks) _).mono ?_
 rintro e w2 ⟨rfl, B3⟩
 have B4 := B2.trans (B3.mono B2.size)
 clear B2 B3
 go_wp2_with fail
 go_ret2
 exact ⟨by unfold inv inv0; rw [HT.out]; rfl, B4⟩
theorem rin_0 (H : RP w b v u c d) (hc : c.ok) (hd : d.ok) :
    Calls Tryz.prog 119 #[.pointer (some ⟨b, 0, none⟩), .int .i64 0] w fun e w' => e = .returned (.tuple #[.int .u8 (inv c d 0 : Nat), .int .i64 0]) ∧ Below w.heap.size w w' := by
 cases h : c.told
 ·exact rin_0f H hc hd h
 ·exact rin_0t H hc hd h
theorem rin_1 (H : RP w b v u c d) (hc : c.ok) (hd : d.ok) :
    Calls Tryz.prog 119 #[.pointer (some ⟨b, 0, none⟩), .int .i64 1] w fun e w' => e = .returned (.tuple #[.int .u8 (inv c d 1 : Nat), .int .i64 0]) ∧ Below w.heap.size w w' := by
 have hz := fun w => zeroChip w
 have HR := Lib.hid H.r0
 have HO := Lib.hid (rc_one c (RowC.one H.cw))
 have HN := Lib.hid (heap_new w (.cells zero36.toArray 139))
 have HC := Lib.hid (And.intro hc hd)
 have HH := Lib.hid H
 have HX := Lib.hid (chip_copied (c := c) (v := v) w)
 clear H hc hd
 go_enter Tryz.func119, Tryz.ntmps119
 go_upto_region 4 with (first | (refine wpList_load_mid rfl _ _ rfl b 0 rfl (c.rcells v) _ HR.out Tryz.underlying139 rfl info36 ?_) | (refine wpList_store_row rfl _ _ _ rfl w.heap.size (c.rcells v).toArray rfl rfl _ _ HN.out info36 rfl HO.out ?_))
 obtain ⟨A, B⟩ := HX.out
 change Code.wp _ _ _ _ ((w.alloc (.cells zero36.toArray 139)).setRow w.heap.size (c.rcells v).toArray)
 have HP := Lib.hid (HH.out.below B)
 clear HX HN HR HO hz
 generalize (w.alloc (.cells zero36.toArray 139)).setRow w.heap.size (c.rcells v).toArray = W at *
 have hq := A.lt
 have HA := Lib.hid A
 have HB := Lib.hid B
 obtain ⟨k32, k33, k34, -⟩ := A.rest
 clear A B
 go_wp2_with (refine wpList_load_mid rfl _ _ rfl w.heap.size 16 rfl (bits8 (c.part 2)) _ (HA.out.bits 2 (by decide)) Tryz.underlying137 rfl info8 ?_)
 refine (byteOf_any (c.part 2) HC.out.1.masked _).mono ?_
 rintro e w1 ⟨rfl, B1⟩
 have B2 := HB.out.trans (B1.mono HB.out.size)
 clear B1 k32 k33 k34
 go_wp2_with fail
 go_ret2
 exact ⟨rfl, B2⟩
theorem rin_2t (H : RP w b v u c d) (hc : c.ok) (hd : d.ok) (ht : d.told = true) :
    Calls Tryz.prog 119 #[.pointer (some ⟨b, 0, none⟩), .int .i64 2] w fun e w' => e = .returned (.tuple #[.int .u8 (inv c d 2 : Nat), .int .i64 0]) ∧ Below w.heap.size w w' := by
 have hz := fun w => zeroChip w
 have HR := Lib.hid H.r1
 have HO := Lib.hid (rc_one d (RowC.one H.dw))
 have HN := Lib.hid (heap_new w (.cells zero36.toArray 139))
 have HC := Lib.hid (And.intro hc hd)
 have HH := Lib.hid H
 have HX := Lib.hid (chip_copied (c := d) (v := u) w)
 have HT := Lib.hid ht
 clear ht
 clear H hc hd
 go_enter Tryz.func119, Tryz.ntmps119
 go_upto_region 4 with (first | (refine wpList_load_mid rfl _ _ rfl b 36 rfl (d.rcells u) _ HR.out Tryz.underlying139 rfl info36 ?_) | (refine wpList_store_row rfl _ _ _ rfl w.heap.size (d.rcells u).toArray rfl rfl _ _ HN.out info36 rfl HO.out ?_))
 obtain ⟨A, B⟩ := HX.out
 change Code.wp _ _ _ _ ((w.alloc (.cells zero36.toArray 139)).setRow w.heap.size (d.rcells u).toArray)
 have HP := Lib.hid (HH.out.below B)
 clear HX HN HR HO hz
 generalize (w.alloc (.cells zero36.toArray 139)).setRow w.heap.size (d.rcells u).toArray = W at *
 have hq := A.lt
 have HA := Lib.hid A
 have HB := Lib.hid B
 obtain ⟨k32, k33, k34, -⟩ := A.rest
 clear A B
 rw [HT.out] at k33
 go_wp2_with (refine wpList_load_mid rfl _ _ rfl w.heap.size 8 rfl (bits8 (d.part 1)) _ (HA.out.bits 1 (by decide)) Tryz.underlying137 rfl info8 ?_)
 refine (byteOf_any (d.part 1) HC.out.2.served _).mono ?_
 rintro e w1 ⟨rfl, B1⟩
 have B2 := HB.out.trans (B1.mono HB.out.size)
 clear B1 k32 k33 k34
 go_wp2_with fail
 go_ret2
 exact ⟨by unfold inv inv0; rw [HT.out]; rfl, B2⟩
theorem rin_2f (H : RP w b v u c d) (hc : c.ok) (hd : d.ok) (ht : d.told = false) :
    Calls Tryz.prog 119 #[.pointer (some ⟨b, 0, none⟩), .int .i64 2] w fun e w' => e = .returned (.tuple #[.int .u8 (inv c d 2 : Nat), .int .i64 0]) ∧ Below w.heap.size w w' := by
 have hz := fun w => zeroChip w
 have HR := Lib.hid H.r1
 have HO := Lib.hid (rc_one d (RowC.one H.dw))
 have HN := Lib.hid (heap_new w (.cells zero36.toArray 139))
 have HC := Lib.hid (And.intro hc hd)
 have HH := Lib.hid H
 have HX := Lib.hid (chip_copied (c := d) (v := u) w)
 have HT := Lib.hid ht
 clear ht
 clear H hc hd
 go_enter Tryz.func119, Tryz.ntmps119
 go_upto_region 4 with (first | (refine wpList_load_mid rfl _ _ rfl b 36 rfl (d.rcells u) _ HR.out Tryz.underlying139 rfl info36 ?_) | (refine wpList_store_row rfl _ _ _ rfl w.heap.size (d.rcells u).toArray rfl rfl _ _ HN.out info36 rfl HO.out ?_))
 obtain ⟨A, B⟩ := HX.out
 change Code.wp _ _ _ _ ((w.alloc (.cells zero36.toArray 139)).setRow w.heap.size (d.rcells u).toArray)
 have HP := Lib.hid (HH.out.below B)
 clear HX HN HR HO hz
 generalize (w.alloc (.cells zero36.toArray 139)).setRow w.heap.size (d.rcells u).toArray = W at *
 have hq := A.lt
 have HA := Lib.hid A
 have HB := Lib.hid B
 obtain ⟨k32, k33, k34, -⟩ := A.rest
 clear A B
 rw [HT.out] at k33
 go_wp2_with fail
 refine (rasking1 HP.out).mono ?_
 rintro e w1 ⟨rfl, B1⟩
 have B2 := HB.out.trans (B1.mono HB.out.size)
 clear B1 k32 k33 k34
 go_wp2_with fail
 refine (byteOf_any d.asks HC.out.2.asks _).mono ?_
 rintro e w2 ⟨rfl, B3⟩
 have B4 := B2.trans (B3.mono B2.size)
 clear B2 B3
 go_wp2_with fail
 go_ret2
 exact ⟨by unfold inv inv0; rw [HT.out]; rfl, B4⟩
theorem rin_2 (H : RP w b v u c d) (hc : c.ok) (hd : d.ok) :
    Calls Tryz.prog 119 #[.pointer (some ⟨b, 0, none⟩), .int .i64 2] w fun e w' => e = .returned (.tuple #[.int .u8 (inv c d 2 : Nat), .int .i64 0]) ∧ Below w.heap.size w w' := by
 cases h : d.told
 ·exact rin_2f H hc hd h
 ·exact rin_2t H hc hd h
theorem rin_3 (H : RP w b v u c d) (hc : c.ok) (hd : d.ok) :
    Calls Tryz.prog 119 #[.pointer (some ⟨b, 0, none⟩), .int .i64 3] w fun e w' => e = .returned (.tuple #[.int .u8 (inv c d 3 : Nat), .int .i64 0]) ∧ Below w.heap.size w w' := by
 have hz := fun w => zeroChip w
 have HR := Lib.hid H.r1
 have HO := Lib.hid (rc_one d (RowC.one H.dw))
 have HN := Lib.hid (heap_new w (.cells zero36.toArray 139))
 have HC := Lib.hid (And.intro hc hd)
 have HH := Lib.hid H
 have HX := Lib.hid (chip_copied (c := d) (v := u) w)
 clear H hc hd
 go_enter Tryz.func119, Tryz.ntmps119
 go_upto_region 4 with (first | (refine wpList_load_mid rfl _ _ rfl b 36 rfl (d.rcells u) _ HR.out Tryz.underlying139 rfl info36 ?_) | (refine wpList_store_row rfl _ _ _ rfl w.heap.size (d.rcells u).toArray rfl rfl _ _ HN.out info36 rfl HO.out ?_))
 obtain ⟨A, B⟩ := HX.out
 change Code.wp _ _ _ _ ((w.alloc (.cells zero36.toArray 139)).setRow w.heap.size (d.rcells u).toArray)
 have HP := Lib.hid (HH.out.below B)
 clear HX HN HR HO hz
 generalize (w.alloc (.cells zero36.toArray 139)).setRow w.heap.size (d.rcells u).toArray = W at *
 have hq := A.lt
 have HA := Lib.hid A
 have HB := Lib.hid B
 obtain ⟨k32, k33, k34, -⟩ := A.rest
 clear A B
 go_wp2_with (refine wpList_load_mid rfl _ _ rfl w.heap.size 16 rfl (bits8 (d.part 2)) _ (HA.out.bits 2 (by decide)) Tryz.underlying137 rfl info8 ?_)
 refine (byteOf_any (d.part 2) HC.out.2.masked _).mono ?_
 rintro e w1 ⟨rfl, B1⟩
 have B2 := HB.out.trans (B1.mono HB.out.size)
 clear B1 k32 k33 k34
 go_wp2_with fail
 go_ret2
 exact ⟨rfl, B2⟩
theorem rin_bad (n : Int) (hn : n < 0 ∨ 3 < n) :
    Calls Tryz.prog 119 #[.pointer (some ⟨b, 0, none⟩), .int .i64 n] w fun e w' => e = .returned (.tuple #[.int .u8 0, .int .i64 1]) ∧ Below w.heap.size w w' := by
 rcases hn with h | h
 all_goals
  go_enter Tryz.func119, Tryz.ntmps119
  go_wp2_with fail
  go_ret2
  exact ⟨rfl, Below.refl _ _⟩
theorem rin_any (H : RP w b v u c d) (hc : c.ok) (hd : d.ok) (n : Int) :
    Calls Tryz.prog 119 #[.pointer (some ⟨b, 0, none⟩), .int .i64 n] w fun e w' => e = .returned (.tuple #[.int .u8 (inv c d n : Nat), .int .i64 (perr n)]) ∧ Below w.heap.size w w' := by
 by_cases hn : 0 ≤ n ∧ n ≤ 3
 ·obtain rfl | rfl | rfl | rfl : n = 0 ∨ n = 1 ∨ n = 2 ∨ n = 3 := by omega
  ·exact rin_0 H hc hd
  ·exact rin_1 H hc hd
  ·exact rin_2 H hc hd
  ·exact rin_3 H hc hd
 ·have h0 : portGood n = false := by
    unfold portGood
    rw [← Bool.decide_and]
    exact decide_eq_false hn
  rw [perr_bad h0, show inv c d n = 0 by unfold inv; rw [if_neg (by omega), if_neg (by omega), if_neg (by omega), if_neg (by omega)]]
  exact rin_bad n (by omega)
end
end Go.Proofs.YtojmpdddfnkffaaGreat.Pic

