/- pic: the document's chips: a bit, bits as a byte. -/
import Derived.Test.YtfijohgbgadhiaaPicK
import Derived.BigQuiet
import Derived.Test.YtfijohgbgadhiaaRow
namespace Go.Proofs.Ytfijohgbgadhiaa
open Go.RowKit
set_option linter.unusedVariables false

def bt (x n : Nat) : Bool := x.testBit n
/-- Bits of a byte, each a value. -/
def bits8 (x : Nat) : List Value := [.bool (bt x 0), .bool (bt x 1), .bool (bt x 2), .bool (bt x 3), .bool (bt x 4), .bool (bt x 5), .bool (bt x 6), .bool (bt x 7)]
theorem testBit_int (x n : Nat) : x.testBit n = decide ((x : Int) / ((2 ^ n : Nat) : Int) % 2 = 1) := by
  rw [Nat.testBit_eq_decide_div_mod_eq, Bool.eq_iff_iff, decide_eq_true_eq, decide_eq_true_eq]
  omega
set_option maxHeartbeats 1000000 in
theorem bit_any (v n : Nat) (hv : v < 256) (hn : n < 8) (w : World) :
    Calls Try.prog 36 #[.int .u8 v, .int .i64 n] w fun e w' => e = .returned (.bool (v.testBit n)) ∧ w = w' := by
  have ht := Lib.hid (testBit_int v n)
  rcases (show n = 0 ∨ n = 1 ∨ n = 2 ∨ n = 3 ∨ n = 4 ∨ n = 5 ∨ n = 6 ∨ n = 7 by omega) with rfl | rfl | rfl | rfl | rfl | rfl | rfl | rfl
  all_goals
    go_enter Try.func36, Try.ntmps36
    go_wp2_with fail
    go_ret
    refine ⟨congrArg (fun b => Ending.returned (Value.bool b)) (?_ : _ = _), rfl⟩
    rw [ht.out, Bool.eq_iff_iff, beq_iff_eq, decide_eq_true_eq]
    omega

theorem mod_up (x k : Nat) : x % 2 ^ (k + 1) = x % 2 ^ k + (if x.testBit k then 2 ^ k else 0) := by
  rw [Nat.testBit_eq_decide_div_mod_eq, Nat.pow_succ, Nat.mod_mul]
  have : x / 2 ^ k % 2 < 2 := Nat.mod_lt _ (by decide)
  rcases (show x / 2 ^ k % 2 = 0 ∨ x / 2 ^ k % 2 = 1 by omega) with h | h <;> rw [h] <;> simp
set_option maxHeartbeats 4000000 in
theorem byteOf_gen (x : Nat) (hx : x < 256) (b0 b1 b2 b3 b4 b5 b6 b7 : Bool) (ht : x.testBit 0 = b0 ∧ x.testBit 1 = b1 ∧ x.testBit 2 = b2 ∧ x.testBit 3 = b3 ∧ x.testBit 4 = b4 ∧ x.testBit 5 = b5 ∧ x.testBit 6 = b6 ∧ x.testBit 7 = b7) (w : World) :
    Calls Try.prog 31 #[.agg #[.bool b0, .bool b1, .bool b2, .bool b3, .bool b4, .bool b5, .bool b6, .bool b7]] w fun e w' => e = .returned (.int .u8 x) ∧ Below w.heap.size w w' := by
  have HM := Lib.hid (mod_up x)
  have HX := Lib.hid hx
  have HT := Lib.hid ht
  clear hx ht
  go_enter Try.func31, Try.ntmps31
  go_wp2_with fail
  have HB : Below w.heap.size w (w.alloc (.cells #[.bool b0, .bool b1, .bool b2, .bool b3, .bool b4, .bool b5, .bool b6, .bool b7] 56)) := (Below.refl _ _).alloc (Nat.le_refl _) _
  have hh := heap_new w (.cells #[.bool b0, .bool b1, .bool b2, .bool b3, .bool b4, .bool b5, .bool b6, .bool b7] 56)
  go_loopw [3, 4] (fun o i wc => ∃ k : Nat, k ≤ 8 ∧ i = .int .i64 k ∧ o = .int .u8 ((x % 2 ^ k : Nat) : Int) ∧ wc = w.alloc (.cells #[.bool b0, .bool b1, .bool b2, .bool b3, .bool b4, .bool b5, .bool b6, .bool b7] 56)) (fun o i _ => 8 - (intOf i).toNat)
  case atStart => exact ⟨0, by omega, rfl, by rw [Nat.pow_zero, Nat.mod_one]; rfl, rfl⟩
  case round =>
    obtain ⟨k, hk, rfl, rfl, rfl⟩ := hrel
    by_cases h8 : k < 8
    · have hk8 : k = 0 ∨ k = 1 ∨ k = 2 ∨ k = 3 ∨ k = 4 ∨ k = 5 ∨ k = 6 ∨ k = 7 := by omega
      rcases hk8 with rfl | rfl | rfl | rfl | rfl | rfl | rfl | rfl
      · have kc : (w.alloc (.cells #[.bool b0, .bool b1, .bool b2, .bool b3, .bool b4, .bool b5, .bool b6, .bool b7] 56)).cell? ⟨w.heap.size, 0, none⟩ = some (.bool b0) := by rw [cell_at hh]; rfl
        have hm := HM.out 0
        have hb : x % 2 ^ 0 < 2 ^ 0 := Nat.mod_lt _ (by decide)
        rw [HT.out.1] at hm
        generalize x % 2 ^ 0 = y at hm hb ⊢
        have hb2 : (y : Int) < 1 := by omega
        have hb3 : (0 : Int) ≤ y := Int.natCast_nonneg y
        have HZ := Lib.hid hm
        clear hm
        cases b0
        all_goals
          go_wp2_with fail
          go_roundw
          case rel => exact ⟨1, by omega, by go_num, by (refine congrArg (Value.int .u8) (?_ : _ = _); have hz := HZ.out; simp only [if_true, if_false, Bool.false_eq_true] at hz; omega), by first | rfl | trivial⟩
          case measure => (simp [intOf]) <;> omega
      · have kc : (w.alloc (.cells #[.bool b0, .bool b1, .bool b2, .bool b3, .bool b4, .bool b5, .bool b6, .bool b7] 56)).cell? ⟨w.heap.size, 1, none⟩ = some (.bool b1) := by rw [cell_at hh]; rfl
        have hm := HM.out 1
        have hb : x % 2 ^ 1 < 2 ^ 1 := Nat.mod_lt _ (by decide)
        rw [HT.out.2.1] at hm
        generalize x % 2 ^ 1 = y at hm hb ⊢
        have hb2 : (y : Int) < 2 := by omega
        have hb3 : (0 : Int) ≤ y := Int.natCast_nonneg y
        have HZ := Lib.hid hm
        clear hm
        cases b1
        all_goals
          go_wp2_with fail
          go_roundw
          case rel => exact ⟨2, by omega, by go_num, by (refine congrArg (Value.int .u8) (?_ : _ = _); have hz := HZ.out; simp only [if_true, if_false, Bool.false_eq_true] at hz; omega), by first | rfl | trivial⟩
          case measure => (simp [intOf]) <;> omega
      · have kc : (w.alloc (.cells #[.bool b0, .bool b1, .bool b2, .bool b3, .bool b4, .bool b5, .bool b6, .bool b7] 56)).cell? ⟨w.heap.size, 2, none⟩ = some (.bool b2) := by rw [cell_at hh]; rfl
        have hm := HM.out 2
        have hb : x % 2 ^ 2 < 2 ^ 2 := Nat.mod_lt _ (by decide)
        rw [HT.out.2.2.1] at hm
        generalize x % 2 ^ 2 = y at hm hb ⊢
        have hb2 : (y : Int) < 4 := by omega
        have hb3 : (0 : Int) ≤ y := Int.natCast_nonneg y
        have HZ := Lib.hid hm
        clear hm
        cases b2
        all_goals
          go_wp2_with fail
          go_roundw
          case rel => exact ⟨3, by omega, by go_num, by (refine congrArg (Value.int .u8) (?_ : _ = _); have hz := HZ.out; simp only [if_true, if_false, Bool.false_eq_true] at hz; omega), by first | rfl | trivial⟩
          case measure => (simp [intOf]) <;> omega
      · have kc : (w.alloc (.cells #[.bool b0, .bool b1, .bool b2, .bool b3, .bool b4, .bool b5, .bool b6, .bool b7] 56)).cell? ⟨w.heap.size, 3, none⟩ = some (.bool b3) := by rw [cell_at hh]; rfl
        have hm := HM.out 3
        have hb : x % 2 ^ 3 < 2 ^ 3 := Nat.mod_lt _ (by decide)
        rw [HT.out.2.2.2.1] at hm
        generalize x % 2 ^ 3 = y at hm hb ⊢
        have hb2 : (y : Int) < 8 := by omega
        have hb3 : (0 : Int) ≤ y := Int.natCast_nonneg y
        have HZ := Lib.hid hm
        clear hm
        cases b3
        all_goals
          go_wp2_with fail
          go_roundw
          case rel => exact ⟨4, by omega, by go_num, by (refine congrArg (Value.int .u8) (?_ : _ = _); have hz := HZ.out; simp only [if_true, if_false, Bool.false_eq_true] at hz; omega), by first | rfl | trivial⟩
          case measure => (simp [intOf]) <;> omega
      · have kc : (w.alloc (.cells #[.bool b0, .bool b1, .bool b2, .bool b3, .bool b4, .bool b5, .bool b6, .bool b7] 56)).cell? ⟨w.heap.size, 4, none⟩ = some (.bool b4) := by rw [cell_at hh]; rfl
        have hm := HM.out 4
        have hb : x % 2 ^ 4 < 2 ^ 4 := Nat.mod_lt _ (by decide)
        rw [HT.out.2.2.2.2.1] at hm
        generalize x % 2 ^ 4 = y at hm hb ⊢
        have hb2 : (y : Int) < 16 := by omega
        have hb3 : (0 : Int) ≤ y := Int.natCast_nonneg y
        have HZ := Lib.hid hm
        clear hm
        cases b4
        all_goals
          go_wp2_with fail
          go_roundw
          case rel => exact ⟨5, by omega, by go_num, by (refine congrArg (Value.int .u8) (?_ : _ = _); have hz := HZ.out; simp only [if_true, if_false, Bool.false_eq_true] at hz; omega), by first | rfl | trivial⟩
          case measure => (simp [intOf]) <;> omega
      · have kc : (w.alloc (.cells #[.bool b0, .bool b1, .bool b2, .bool b3, .bool b4, .bool b5, .bool b6, .bool b7] 56)).cell? ⟨w.heap.size, 5, none⟩ = some (.bool b5) := by rw [cell_at hh]; rfl
        have hm := HM.out 5
        have hb : x % 2 ^ 5 < 2 ^ 5 := Nat.mod_lt _ (by decide)
        rw [HT.out.2.2.2.2.2.1] at hm
        generalize x % 2 ^ 5 = y at hm hb ⊢
        have hb2 : (y : Int) < 32 := by omega
        have hb3 : (0 : Int) ≤ y := Int.natCast_nonneg y
        have HZ := Lib.hid hm
        clear hm
        cases b5
        all_goals
          go_wp2_with fail
          go_roundw
          case rel => exact ⟨6, by omega, by go_num, by (refine congrArg (Value.int .u8) (?_ : _ = _); have hz := HZ.out; simp only [if_true, if_false, Bool.false_eq_true] at hz; omega), by first | rfl | trivial⟩
          case measure => (simp [intOf]) <;> omega
      · have kc : (w.alloc (.cells #[.bool b0, .bool b1, .bool b2, .bool b3, .bool b4, .bool b5, .bool b6, .bool b7] 56)).cell? ⟨w.heap.size, 6, none⟩ = some (.bool b6) := by rw [cell_at hh]; rfl
        have hm := HM.out 6
        have hb : x % 2 ^ 6 < 2 ^ 6 := Nat.mod_lt _ (by decide)
        rw [HT.out.2.2.2.2.2.2.1] at hm
        generalize x % 2 ^ 6 = y at hm hb ⊢
        have hb2 : (y : Int) < 64 := by omega
        have hb3 : (0 : Int) ≤ y := Int.natCast_nonneg y
        have HZ := Lib.hid hm
        clear hm
        cases b6
        all_goals
          go_wp2_with fail
          go_roundw
          case rel => exact ⟨7, by omega, by go_num, by (refine congrArg (Value.int .u8) (?_ : _ = _); have hz := HZ.out; simp only [if_true, if_false, Bool.false_eq_true] at hz; omega), by first | rfl | trivial⟩
          case measure => (simp [intOf]) <;> omega
      · have kc : (w.alloc (.cells #[.bool b0, .bool b1, .bool b2, .bool b3, .bool b4, .bool b5, .bool b6, .bool b7] 56)).cell? ⟨w.heap.size, 7, none⟩ = some (.bool b7) := by rw [cell_at hh]; rfl
        have hm := HM.out 7
        have hb : x % 2 ^ 7 < 2 ^ 7 := Nat.mod_lt _ (by decide)
        rw [HT.out.2.2.2.2.2.2.2] at hm
        generalize x % 2 ^ 7 = y at hm hb ⊢
        have hb2 : (y : Int) < 128 := by omega
        have hb3 : (0 : Int) ≤ y := Int.natCast_nonneg y
        have HZ := Lib.hid hm
        clear hm
        cases b7
        all_goals
          go_wp2_with fail
          go_roundw
          case rel => exact ⟨8, by omega, by go_num, by (refine congrArg (Value.int .u8) (?_ : _ = _); have hz := HZ.out; simp only [if_true, if_false, Bool.false_eq_true] at hz; omega), by first | rfl | trivial⟩
          case measure => (simp [intOf]) <;> omega
    · obtain rfl : k = 8 := by omega
      have e8 : x % 2 ^ 8 = x := Nat.mod_eq_of_lt HX.out
      rw [e8]
      go_wp2_with fail
      go_ret
      exact ⟨rfl, HB⟩
theorem byteOf_any (x : Nat) (hx : x < 256) (w : World) :
    Calls Try.prog 31 #[.agg (bits8 x).toArray] w fun e w' => e = .returned (.int .u8 x) ∧ Below w.heap.size w w' :=
  byteOf_gen x hx _ _ _ _ _ _ _ _ ⟨rfl, rfl, rfl, rfl, rfl, rfl, rfl, rfl⟩ w

/-- What a chip waits for while it is set up. -/
def Chip.wants (c : Chip) : List Nat :=
  if c.stage = 1 then 1 :: ((if c.second then [2] else []) ++ (if c.last then [3] else [])) else if c.stage = 2 then 2 :: (if c.last then [3] else []) else if c.stage = 3 then [3] else []
def numV (L : List Nat) : List Value := L.map (fun (n : Nat) => Value.int .i64 (n : Int))
def Chip.rcells (c : Chip) (v : Value) : List Value := [.bool (bt c.asks 0), .bool (bt c.asks 1), .bool (bt c.asks 2), .bool (bt c.asks 3), .bool (bt c.asks 4), .bool (bt c.asks 5), .bool (bt c.asks 6), .bool (bt c.asks 7), .bool (bt c.served 0), .bool (bt c.served 1), .bool (bt c.served 2), .bool (bt c.served 3), .bool (bt c.served 4), .bool (bt c.served 5), .bool (bt c.served 6), .bool (bt c.served 7), .bool (bt c.masked 0), .bool (bt c.masked 1), .bool (bt c.masked 2), .bool (bt c.masked 3), .bool (bt c.masked 4), .bool (bt c.masked 5), .bool (bt c.masked 6), .bool (bt c.masked 7), .bool (bt c.up 0), .bool (bt c.up 1), .bool (bt c.up 2), .bool (bt c.up 3), .bool (bt c.up 4), .bool (bt c.up 5), .bool (bt c.up 6), .bool (bt c.up 7), .int .i64 (c.base : Nat), .bool c.told, .bool c.ends, v]
/-- Block b is the document's pair of chips, v and u what they wait for. -/
structure RP (w : World) (b : Nat) (v u : Value) (c d : Chip) : Prop where
  obj : w.heap[b]? = some (.cells (c.rcells v ++ d.rcells u).toArray 61)
  cw : RowC w 3 1 v c.wants.length (numV c.wants)
  dw : RowC w 3 1 u d.wants.length (numV d.wants)
theorem RP.lt {w : World} {b : Nat} {v u : Value} {c d : Chip} (H : RP w b v u c d) : b < w.heap.size := heap_lt H.obj
theorem RP.below {w w1 : World} {b : Nat} {v u : Value} {c d : Chip} (H : RP w b v u c d) (hb : Below w.heap.size w w1) : RP w1 b v u c d :=
  ⟨heap_below hb H.obj, H.cw.of_heap fun k hk => hb.block _ (H.cw.lt hk), H.dw.of_heap fun k hk => hb.block _ (H.dw.lt hk)⟩
def Chip.part (c : Chip) : Nat → Nat
  | 0 => c.asks
  | 1 => c.served
  | 2 => c.masked
  | _ => c.up
theorem RP.cell {w : World} {b : Nat} {v u : Value} {c d : Chip} (H : RP w b v u c d) (n f i k : Nat) (hn : n < 2) (hf : f < 4) (hi : i < 8) (hk : k = 36 * n + 8 * f + i) :
    w.cell? ⟨b, k, none⟩ = some (.bool (bt ((if n = 0 then c else d).part f) i)) := by
  rw [cell_at H.obj, hk]
  rcases (show n = 0 ∨ n = 1 by omega) with rfl | rfl <;> rcases (show f = 0 ∨ f = 1 ∨ f = 2 ∨ f = 3 by omega) with rfl | rfl | rfl | rfl <;>
    rcases (show i = 0 ∨ i = 1 ∨ i = 2 ∨ i = 3 ∨ i = 4 ∨ i = 5 ∨ i = 6 ∨ i = 7 by omega) with rfl | rfl | rfl | rfl | rfl | rfl | rfl | rfl <;> rfl
theorem RP.last4 {w : World} {b : Nat} {v u : Value} {c d : Chip} (H : RP w b v u c d) :
    w.cell? ⟨b, 32, none⟩ = some (.int .i64 (c.base : Nat)) ∧ w.cell? ⟨b, 33, none⟩ = some (.bool c.told) ∧ w.cell? ⟨b, 34, none⟩ = some (.bool c.ends) ∧ w.cell? ⟨b, 35, none⟩ = some v ∧
    w.cell? ⟨b, 68, none⟩ = some (.int .i64 (d.base : Nat)) ∧ w.cell? ⟨b, 69, none⟩ = some (.bool d.told) ∧ w.cell? ⟨b, 70, none⟩ = some (.bool d.ends) ∧ w.cell? ⟨b, 71, none⟩ = some u := by
  refine ⟨?_, ?_, ?_, ?_, ?_, ?_, ?_, ?_⟩ <;> (rw [cell_at H.obj]; rfl)
section
variable {w : World} {b : Nat} {v u : Value} {c d : Chip}
theorem below2 (w : World) (a b : Obj) : Below w.heap.size w ((w.alloc a).alloc b) := by
  have B1 : Below w.heap.size w (w.alloc a) := (Below.refl _ _).alloc (Nat.le_refl _) _
  exact B1.alloc B1.size _
theorem cells8 {W : World} {k : Nat} {T : TypeId} {a0 a1 a2 a3 a4 a5 a6 a7 : Value} (h : W.heap[k]? = some (.cells #[a0, a1, a2, a3, a4, a5, a6, a7] T)) :
    W.cell? ⟨k, 0, none⟩ = some a0 ∧ W.cell? ⟨k, 1, none⟩ = some a1 ∧ W.cell? ⟨k, 2, none⟩ = some a2 ∧ W.cell? ⟨k, 3, none⟩ = some a3 ∧ W.cell? ⟨k, 4, none⟩ = some a4 ∧ W.cell? ⟨k, 5, none⟩ = some a5 ∧ W.cell? ⟨k, 6, none⟩ = some a6 ∧ W.cell? ⟨k, 7, none⟩ = some a7 := by
  refine ⟨?_, ?_, ?_, ?_, ?_, ?_, ?_, ?_⟩ <;> (rw [cell_at h]; rfl)
set_option maxHeartbeats 2000000 in
theorem rasking1 (H : RP w b v u c d) :
    Calls Try.prog 32 #[.pointer (some ⟨b, 0, none⟩), .int .i64 1] w fun e w' => e = .returned (.agg (bits8 d.asks).toArray) ∧ Below w.heap.size w w' := by
  have k0 : w.cell? ⟨b, 36, none⟩ = some (.bool (bt d.asks 0)) := H.cell 1 0 0 36 (by decide) (by decide) (by decide) rfl
  have k1 : w.cell? ⟨b, 37, none⟩ = some (.bool (bt d.asks 1)) := H.cell 1 0 1 37 (by decide) (by decide) (by decide) rfl
  have k2 : w.cell? ⟨b, 38, none⟩ = some (.bool (bt d.asks 2)) := H.cell 1 0 2 38 (by decide) (by decide) (by decide) rfl
  have k3 : w.cell? ⟨b, 39, none⟩ = some (.bool (bt d.asks 3)) := H.cell 1 0 3 39 (by decide) (by decide) (by decide) rfl
  have k4 : w.cell? ⟨b, 40, none⟩ = some (.bool (bt d.asks 4)) := H.cell 1 0 4 40 (by decide) (by decide) (by decide) rfl
  have k5 : w.cell? ⟨b, 41, none⟩ = some (.bool (bt d.asks 5)) := H.cell 1 0 5 41 (by decide) (by decide) (by decide) rfl
  have k6 : w.cell? ⟨b, 42, none⟩ = some (.bool (bt d.asks 6)) := H.cell 1 0 6 42 (by decide) (by decide) (by decide) rfl
  have k7 : w.cell? ⟨b, 43, none⟩ = some (.bool (bt d.asks 7)) := H.cell 1 0 7 43 (by decide) (by decide) (by decide) rfl
  have kl := H.lt
  clear H
  go_enter Try.func32, Try.ntmps32
  go_wp2_with fail
  refine bodyPost_ret (v := .agg (bits8 d.asks).toArray) (by simp [results, Try.results32, go_sem, bits8]) rfl ⟨rfl, below2 _ _ _⟩
def sets8 (W : World) (k : Nat) (a0 a1 a2 a3 a4 a5 a6 a7 : Value) : World :=
  (((((((W.setCell ⟨k, 0, none⟩ a0).setCell ⟨k, 1, none⟩ a1).setCell ⟨k, 2, none⟩ a2).setCell ⟨k, 3, none⟩ a3).setCell ⟨k, 4, none⟩ a4).setCell ⟨k, 5, none⟩ a5).setCell ⟨k, 6, none⟩ a6).setCell ⟨k, 7, none⟩ a7
theorem sets8_heap (W : World) (k : Nat) {T : TypeId} {x0 x1 x2 x3 x4 x5 x6 x7 a0 a1 a2 a3 a4 a5 a6 a7 : Value} (h : W.heap[k]? = some (.cells #[x0, x1, x2, x3, x4, x5, x6, x7] T)) :
    (sets8 W k a0 a1 a2 a3 a4 a5 a6 a7).heap[k]? = some (.cells #[a0, a1, a2, a3, a4, a5, a6, a7] T) := by
  unfold sets8
  simp only [heap_set_map, h, Option.map_some, putObj_cells]
  rfl
theorem sets8_below {B k : Nat} {w W : World} (h : Below B w W) (hk : B ≤ k) (a0 a1 a2 a3 a4 a5 a6 a7 : Value) : Below B w (sets8 W k a0 a1 a2 a3 a4 a5 a6 a7) := by
  unfold sets8
  exact (((((((h.setCell hk _).setCell hk _).setCell hk _).setCell hk _).setCell hk _).setCell hk _).setCell hk _).setCell hk _
/-- Neither served nor to be told below k. -/
def RT (a m s k : Nat) : Prop := ∀ j, j < k → bt s j = false ∧ (bt a j && !bt m j) = false
def tellsR (a m s : Nat) : Int := if isTold a m s then (tz8 (left a m) : Int) else -1
section
variable {a m s k : Nat} (ha : a < 256) (hm : m < 256) (hs : s < 256) (R : RT a m s k)
include ha hm hs R
omit hs in
theorem rt_left (hk : k ≤ 8) : k ≤ tz8 (left a m) := tz8_ge (left_lt ha) hk fun j hj => by rw [bit_left a m j hm (by omega)]; exact (R j hj).2
theorem rt_serve (hk : k < 8) (h : bt s k = true) : tellsR a m s = -1 := by
  have h1 : tz8 s = k := tz8_is hs hk h fun j hj => (R j hj).1
  have h2 := rt_left ha hm R (by omega)
  have h3 : isTold a m s = false := by
    unfold isTold
    refine decide_eq_false ?_
    change ¬ tz8 (left a m) < _
    omega
  unfold tellsR
  rw [h3]; rfl
theorem rt_tell (hk : k < 8) (h : bt s k = false) (h1 : bt a k = true) (h2 : bt m k = false) : tellsR a m s = k := by
  have e1 : tz8 (left a m) = k := tz8_is (left_lt ha) hk (by rw [bit_left a m k hm hk]; show (bt a k && !bt m k) = true; rw [h1, h2]; rfl) fun j hj => by rw [bit_left a m j hm (by omega)]; exact (R j hj).2
  have e2 : k + 1 ≤ tz8 s := tz8_ge hs (by omega) fun j hj => by
    rcases (show j < k ∨ j = k by omega) with h | rfl
    · exact (R j h).1
    · exact h
  have h3 : isTold a m s = true := by
    unfold isTold
    refine decide_eq_true ?_
    change tz8 (left a m) < _
    omega
  unfold tellsR
  rw [h3, e1]; rfl
theorem rt_end (hk : k = 8) : tellsR a m s = -1 := by
  subst hk
  have h2 := rt_left ha hm R (by omega)
  have h1 := tz8_le s hs
  have h3 : isTold a m s = false := by
    unfold isTold
    refine decide_eq_false ?_
    change ¬ tz8 (left a m) < _
    omega
  unfold tellsR
  rw [h3]; rfl
omit ha hm hs in
theorem rt_up (h : bt s k = false) (h2 : (bt a k && !bt m k) = false) : RT a m s (k + 1) := fun j hj => by
  rcases (show j < k ∨ j = k by omega) with h | rfl
  · exact R j h
  · exact ⟨h, h2⟩
end
theorem cell_bits {W : World} {k : Nat} {T : TypeId} {x : Nat} (h : W.heap[k]? = some (.cells (bits8 x).toArray T)) (i : Nat) (hi : i < 8) : W.cell? ⟨k, i, none⟩ = some (.bool (bt x i)) := by
  rw [cell_at h]
  rcases (show i = 0 ∨ i = 1 ∨ i = 2 ∨ i = 3 ∨ i = 4 ∨ i = 5 ∨ i = 6 ∨ i = 7 by omega) with rfl | rfl | rfl | rfl | rfl | rfl | rfl | rfl <;> rfl
set_option maxHeartbeats 4000000 in
theorem rtells1 (H : RP w b v u c d) (hc : c.ok) (hd : d.ok) :
    Calls Try.prog 34 #[.pointer (some ⟨b, 0, none⟩), .int .i64 1] w fun e w' => e = .returned (.int .i64 (tellsR d.asks d.masked d.served)) ∧ Below w.heap.size w w' := by
  have HA := Lib.hid (hd.asks)
  have HM := Lib.hid hd.masked
  have HS := Lib.hid hd.served
  have HC := Lib.hid (And.intro hc hd)
  clear hc hd
  go_enter Try.func34, Try.ntmps34
  go_wp2_with fail
  refine (rasking1 H).mono ?_
  rintro e w1 ⟨rfl, B1⟩
  unfold bits8
  go_wp2_with fail
  have B2 : Below w.heap.size w (w1.alloc (.cells (bits8 (d.asks)).toArray 56)) := B1.alloc B1.size _
  have hq := heap_new w1 (.cells (bits8 (d.asks)).toArray 56)
  have HP := H.below B2
  have hql : w1.heap.size < (w1.alloc (.cells (bits8 (d.asks)).toArray 56)).heap.size := heap_lt hq
  have HPl := HP.lt
  have c1 : ∀ i, i < 8 → (w1.alloc (.cells (bits8 (d.asks)).toArray 56)).cell? ⟨w1.heap.size, i, none⟩ = some (.bool (bt (d.asks) i)) := fun i hi => cell_bits hq i hi
  have c2 : ∀ i, i < 8 → (w1.alloc (.cells (bits8 (d.asks)).toArray 56)).cell? ⟨b, 44 + i, none⟩ = some (.bool (bt d.served i)) := fun i hi => HP.cell 1 1 i _ (by decide) (by decide) hi (by omega)
  have c3 : ∀ i, i < 8 → (w1.alloc (.cells (bits8 (d.asks)).toArray 56)).cell? ⟨b, 52 + i, none⟩ = some (.bool (bt d.masked i)) := fun i hi => HP.cell 1 2 i _ (by decide) (by decide) hi (by omega)
  unfold bits8 at c1 c2 c3 B2 hql HPl
  clear HP hq H B1
  generalize w1.alloc _ = W at *
  generalize w1.heap.size = q at *
  go_loopw [6] (fun i wc => ∃ k : Nat, k ≤ 8 ∧ i = .int .i64 k ∧ RT (d.asks) d.masked d.served k ∧ wc = W) (fun i _ => 8 - (intOf i).toNat)
  case atStart => exact ⟨0, by omega, rfl, fun j hj => by omega, rfl⟩
  case round =>
    obtain ⟨k, hk, rfl, R, rfl⟩ := hrel
    have HR := Lib.hid R
    clear R
    by_cases h8 : k < 8
    · have p1 : (0 : Int) ≤ (k : Int) := by omega
      have p2 : (k : Int) < 8 := by omega
      have d1 := c1 k h8
      have d2 := c2 k h8
      have d3 := c3 k h8
      clear c1 c2 c3
      cases hs : bt d.served k
      · rw [hs] at d2
        have H1 := Lib.hid hs
        clear hs
        cases ha : bt (d.asks) k <;> cases hm : bt d.masked k
        all_goals
          rw [ha] at d1
          rw [hm] at d3
          have H2 := Lib.hid ha
          have H3 := Lib.hid hm
          clear ha hm
          go_wp2_with fail
          first
            | (go_ret; exact ⟨by rw [rt_tell HA.out HM.out HS.out HR.out h8 H1.out H2.out H3.out]; rfl, B2⟩)
            | (go_roundw
               case rel => exact ⟨k + 1, by omega, by go_num, rt_up HR.out H1.out (by rw [H2.out, H3.out]; rfl), by first | rfl | trivial⟩
               case measure => (simp [intOf]) <;> omega)
      · rw [hs] at d2
        have H1 := Lib.hid hs
        clear hs
        go_wp2_with fail
        go_ret
        exact ⟨by rw [rt_serve HA.out HM.out HS.out HR.out h8 H1.out]; rfl, B2⟩
    · have p2 : (8 : Int) ≤ k := by omega
      have e8 : k = 8 := by omega
      go_wp2_with fail
      go_ret
      exact ⟨by rw [rt_end HA.out HM.out HS.out HR.out e8]; rfl, B2⟩
theorem tellsR_ge (a m s : Nat) : decide (0 ≤ tellsR a m s) = isTold a m s := by
  unfold tellsR
  cases isTold a m s
  · rfl
  · rw [if_pos rfl]; exact decide_eq_true (Int.natCast_nonneg _)
theorem ask0_bits (c d : Chip) : bits8 (ask0 c d) = [.bool (bt c.asks 0), .bool (bt c.asks 1), .bool (isTold d.asks d.masked d.served), .bool (bt c.asks 3), .bool (bt c.asks 4), .bool (bt c.asks 5), .bool (bt c.asks 6), .bool (bt c.asks 7)] := by
  unfold bits8 bt
  rw [bit_ask0 c d 0 (by decide), bit_ask0 c d 1 (by decide), bit_ask0 c d 2 (by decide), bit_ask0 c d 3 (by decide), bit_ask0 c d 4 (by decide), bit_ask0 c d 5 (by decide), bit_ask0 c d 6 (by decide), bit_ask0 c d 7 (by decide)]
  rfl
set_option maxHeartbeats 4000000 in
theorem rasking0 (H : RP w b v u c d) (hc : c.ok) (hd : d.ok) :
    Calls Try.prog 32 #[.pointer (some ⟨b, 0, none⟩), .int .i64 0] w fun e w' => e = .returned (.agg (bits8 (ask0 c d)).toArray) ∧ Below w.heap.size w w' := by
  have H1 := rtells1 (w := w) H hc hd
  rw [ask0_bits, ← tellsR_ge]
  have h1 := fun (W : World) (HP : RP W b v u c d) => rtells1 HP hc hd
  generalize tellsR d.asks d.masked d.served = t at h1 ⊢
  have HT := Lib.hid h1
  clear h1 H1
  have k0 : w.cell? ⟨b, 0, none⟩ = some (.bool (bt c.asks 0)) := H.cell 0 0 0 0 (by decide) (by decide) (by decide) rfl
  have k1 : w.cell? ⟨b, 1, none⟩ = some (.bool (bt c.asks 1)) := H.cell 0 0 1 1 (by decide) (by decide) (by decide) rfl
  have k2 : w.cell? ⟨b, 2, none⟩ = some (.bool (bt c.asks 2)) := H.cell 0 0 2 2 (by decide) (by decide) (by decide) rfl
  have k3 : w.cell? ⟨b, 3, none⟩ = some (.bool (bt c.asks 3)) := H.cell 0 0 3 3 (by decide) (by decide) (by decide) rfl
  have k4 : w.cell? ⟨b, 4, none⟩ = some (.bool (bt c.asks 4)) := H.cell 0 0 4 4 (by decide) (by decide) (by decide) rfl
  have k5 : w.cell? ⟨b, 5, none⟩ = some (.bool (bt c.asks 5)) := H.cell 0 0 5 5 (by decide) (by decide) (by decide) rfl
  have k6 : w.cell? ⟨b, 6, none⟩ = some (.bool (bt c.asks 6)) := H.cell 0 0 6 6 (by decide) (by decide) (by decide) rfl
  have k7 : w.cell? ⟨b, 7, none⟩ = some (.bool (bt c.asks 7)) := H.cell 0 0 7 7 (by decide) (by decide) (by decide) rfl
  have kl := H.lt
  have HH := Lib.hid H
  have HC := Lib.hid (And.intro hc hd)
  clear H hc hd
  go_enter Try.func32, Try.ntmps32
  go_wp2_with fail
  refine (HT.out _ (HH.out.below (below2 w _ _))).mono ?_
  rintro e w1 ⟨rfl, B1⟩
  have g1 : w1.heap[w.heap.size]? = some (.cells #[.bool false, .bool false, .bool false, .bool false, .bool false, .bool false, .bool false, .bool false] 56) := heap_below B1 (heap_alloc_lt (heap_new w _))
  have g2 : w1.heap[w.heap.size + 1]? = some (.cells #[.bool (bt c.asks 0), .bool (bt c.asks 1), .bool (bt c.asks 2), .bool (bt c.asks 3), .bool (bt c.asks 4), .bool (bt c.asks 5), .bool (bt c.asks 6), .bool (bt c.asks 7)] 56) := heap_below B1 (by rw [show w.heap.size + 1 = (w.alloc (.cells #[.bool false, .bool false, .bool false, .bool false, .bool false, .bool false, .bool false, .bool false] 56)).heap.size by rw [World.size_alloc]]; exact heap_new _ _)
  have B2 : Below w.heap.size w w1 := (below2 w _ _).trans (B1.mono (below2 w _ _).size)
  have GG := Lib.hid (And.intro g1 g2)
  have gl1 := heap_lt g1
  have gl2 := heap_lt g2
  have gf1 : ∀ k, w1.frozen? ⟨w.heap.size, k, none⟩ = false := fun k => free_at g1
  have gf2 : ∀ k, w1.frozen? ⟨w.heap.size + 1, k, none⟩ = false := fun k => free_at g2
  obtain ⟨y0, y1, y2, y3, y4, y5, y6, y7⟩ := cells8 g2
  obtain ⟨z0, z1, z2, z3, z4, z5, z6, z7⟩ := cells8 g1
  clear g1 g2 B1 k0 k1 k2 k3 k4 k5 k6 k7
  go_wp2_with fail
  have hx : (sets8 (w1.setCell ⟨w.heap.size + 1, 2, none⟩ (.bool (decide (0 ≤ t)))) w.heap.size (.bool (bt c.asks 0)) (.bool (bt c.asks 1)) (.bool (decide (0 ≤ t))) (.bool (bt c.asks 3)) (.bool (bt c.asks 4)) (.bool (bt c.asks 5)) (.bool (bt c.asks 6)) (.bool (bt c.asks 7))).heap[w.heap.size]? = some (.cells #[.bool (bt c.asks 0), .bool (bt c.asks 1), .bool (decide (0 ≤ t)), .bool (bt c.asks 3), .bool (bt c.asks 4), .bool (bt c.asks 5), .bool (bt c.asks 6), .bool (bt c.asks 7)] 56) := by
    rw [sets8_heap _ _ (by rw [heap_set_other _ (show w.heap.size ≠ w.heap.size + 1 by omega)]; exact GG.out.1)]
  have hB := sets8_below (B2.setCell (p := ⟨w.heap.size + 1, 2, none⟩) (Nat.le_succ _) (.bool (decide (0 ≤ t)))) (Nat.le_refl _) (.bool (bt c.asks 0)) (.bool (bt c.asks 1)) (.bool (decide (0 ≤ t))) (.bool (bt c.asks 3)) (.bool (bt c.asks 4)) (.bool (bt c.asks 5)) (.bool (bt c.asks 6)) (.bool (bt c.asks 7))
  change bodyPost _ _ _ _ _ (sets8 (w1.setCell ⟨w.heap.size + 1, 2, none⟩ (.bool (decide (0 ≤ t)))) w.heap.size (.bool (bt c.asks 0)) (.bool (bt c.asks 1)) (.bool (decide (0 ≤ t))) (.bool (bt c.asks 3)) (.bool (bt c.asks 4)) (.bool (bt c.asks 5)) (.bool (bt c.asks 6)) (.bool (bt c.asks 7)))
  generalize sets8 _ _ _ _ _ _ _ _ _ _ = Wf at *
  clear y0 y1 y2 y3 y4 y5 y6 y7
  obtain ⟨y0, y1, y2, y3, y4, y5, y6, y7⟩ := cells8 hx
  refine bodyPost_ret (v := .agg #[.bool (bt c.asks 0), .bool (bt c.asks 1), .bool (decide (0 ≤ t)), .bool (bt c.asks 3), .bool (bt c.asks 4), .bool (bt c.asks 5), .bool (bt c.asks 6), .bool (bt c.asks 7)]) (by simp [results, Try.results32, go_sem, y0, y1, y2, y3, y4, y5, y6, y7]) rfl ⟨rfl, hB⟩
set_option maxHeartbeats 4000000 in
theorem rtells0 (H : RP w b v u c d) (hc : c.ok) (hd : d.ok) :
    Calls Try.prog 34 #[.pointer (some ⟨b, 0, none⟩), .int .i64 0] w fun e w' => e = .returned (.int .i64 (tellsR (ask0 c d) c.masked c.served)) ∧ Below w.heap.size w w' := by
  have HA := Lib.hid (ask0_lt c d hc.asks)
  have HM := Lib.hid hc.masked
  have HS := Lib.hid hc.served
  have HC := Lib.hid (And.intro hc hd)
  clear hc hd
  go_enter Try.func34, Try.ntmps34
  go_wp2_with fail
  refine (rasking0 H HC.out.1 HC.out.2).mono ?_
  rintro e w1 ⟨rfl, B1⟩
  unfold bits8
  go_wp2_with fail
  have B2 : Below w.heap.size w (w1.alloc (.cells (bits8 (ask0 c d)).toArray 56)) := B1.alloc B1.size _
  have hq := heap_new w1 (.cells (bits8 (ask0 c d)).toArray 56)
  have HP := H.below B2
  have hql : w1.heap.size < (w1.alloc (.cells (bits8 (ask0 c d)).toArray 56)).heap.size := heap_lt hq
  have HPl := HP.lt
  have c1 : ∀ i, i < 8 → (w1.alloc (.cells (bits8 (ask0 c d)).toArray 56)).cell? ⟨w1.heap.size, i, none⟩ = some (.bool (bt (ask0 c d) i)) := fun i hi => cell_bits hq i hi
  have c2 : ∀ i, i < 8 → (w1.alloc (.cells (bits8 (ask0 c d)).toArray 56)).cell? ⟨b, 8 + i, none⟩ = some (.bool (bt c.served i)) := fun i hi => HP.cell 0 1 i _ (by decide) (by decide) hi (by omega)
  have c3 : ∀ i, i < 8 → (w1.alloc (.cells (bits8 (ask0 c d)).toArray 56)).cell? ⟨b, 16 + i, none⟩ = some (.bool (bt c.masked i)) := fun i hi => HP.cell 0 2 i _ (by decide) (by decide) hi (by omega)
  unfold bits8 at c1 c2 c3 B2 hql HPl
  clear HP hq H B1
  generalize w1.alloc _ = W at *
  generalize w1.heap.size = q at *
  go_loopw [6] (fun i wc => ∃ k : Nat, k ≤ 8 ∧ i = .int .i64 k ∧ RT (ask0 c d) c.masked c.served k ∧ wc = W) (fun i _ => 8 - (intOf i).toNat)
  case atStart => exact ⟨0, by omega, rfl, fun j hj => by omega, rfl⟩
  case round =>
    obtain ⟨k, hk, rfl, R, rfl⟩ := hrel
    have HR := Lib.hid R
    clear R
    by_cases h8 : k < 8
    · have p1 : (0 : Int) ≤ (k : Int) := by omega
      have p2 : (k : Int) < 8 := by omega
      have d1 := c1 k h8
      have d2 := c2 k h8
      have d3 := c3 k h8
      clear c1 c2 c3
      cases hs : bt c.served k
      · rw [hs] at d2
        have H1 := Lib.hid hs
        clear hs
        cases ha : bt (ask0 c d) k <;> cases hm : bt c.masked k
        all_goals
          rw [ha] at d1
          rw [hm] at d3
          have H2 := Lib.hid ha
          have H3 := Lib.hid hm
          clear ha hm
          go_wp2_with fail
          first
            | (go_ret; exact ⟨by rw [rt_tell HA.out HM.out HS.out HR.out h8 H1.out H2.out H3.out]; rfl, B2⟩)
            | (go_roundw
               case rel => exact ⟨k + 1, by omega, by go_num, rt_up HR.out H1.out (by rw [H2.out, H3.out]; rfl), by first | rfl | trivial⟩
               case measure => (simp [intOf]) <;> omega)
      · rw [hs] at d2
        have H1 := Lib.hid hs
        clear hs
        go_wp2_with fail
        go_ret
        exact ⟨by rw [rt_serve HA.out HM.out HS.out HR.out h8 H1.out]; rfl, B2⟩
    · have p2 : (8 : Int) ≤ k := by omega
      have e8 : k = 8 := by omega
      go_wp2_with fail
      go_ret
      exact ⟨by rw [rt_end HA.out HM.out HS.out HR.out e8]; rfl, B2⟩
end
end Go.Proofs.Ytfijohgbgadhiaa
