/- pic: trailing zeros; a pair of chips as an object; which line asks, which is told. -/
import Derived.Test.YtfijohgbgadhiaaRows
import Derived.Test.YtfijohgbgadhiaaObj
import Derived.BigRegion
import Derived.Deep.RegionWith
import Derived.Deep.RegionHeld3
import Derived.Deep.Cut
import Derived.Lib.Hide
import Derived.Laws.BitsAll
import Derived.Lib.BitFns
import Derived.Deep.QuietTactic
import Derived.BigQuiet
namespace Go.Proofs.Ytfijohgbgadhiaa
open Go.RowKit
set_option linter.unusedVariables false

def tz8 (x : Nat) : Nat := Lib.trailingZeros8 x
theorem tz8_le (x : Nat) (hx : x < 256) : tz8 x ≤ 8 := by
  have h : ∀ y : Fin 256, tz8 y.val ≤ 8 := by decide +kernel
  exact h ⟨x, hx⟩

set_option maxRecDepth 100000 in
set_option maxHeartbeats 1000000 in
theorem tz_int (x : Int) (h0 : 0 ≤ x) (h1 : x ≤ 255) (w : World) : Calls Try.prog 35 #[.int .u8 x] w fun e w' => e = .returned (.int .i64 (Lib.trailingZeros8 x.toNat)) ∧ w = w' := by
  rw [← Lib.ntz8_int x h0 h1]
  go_enter Try.func35, Try.ntmps35
  go_wp2
  go_ret
  exact ⟨by kernel_rfl, rfl⟩
theorem tz_any (x : Nat) (hx : x < 256) (w : World) : Calls Try.prog 35 #[.int .u8 x] w fun e w' => e = .returned (.int .i64 (tz8 x)) ∧ w = w' := by
  have h := tz_int x (by omega) (by omega) w
  rw [Int.toNat_natCast] at h
  exact h

/-- A chip. -/
structure Chip where
  asks : Nat
  served : Nat
  masked : Nat
  up : Nat
  base : Nat
  told : Bool
  ends : Bool
  stage : Nat
  second : Bool
  last : Bool
structure Chip.ok (c : Chip) : Prop where
  asks : c.asks < 256
  served : c.served < 256
  masked : c.masked < 256
  up : c.up < 256
  base : c.base < 256
  stage : c.stage < 4
def Chip.cells (c : Chip) : List Value := [.int .u8 c.asks, .int .u8 c.served, .int .u8 c.masked, .int .u8 c.up, .int .u8 c.base, .bool c.told, .bool c.ends, .int .i64 c.stage, .bool c.second, .bool c.last]

/-- Block b is a pair of chips. -/
def Pair (w : World) (b : Nat) (c d : Chip) : Prop := w.heap[b]? = some (.cells (c.cells ++ d.cells).toArray 52)
theorem Pair.below {w w1 : World} {b : Nat} {c d : Chip} (H : Pair w b c d) (hb : Below w.heap.size w w1) : Pair w1 b c d := heap_below hb H
theorem Pair.facts {w : World} {b : Nat} {c d : Chip} (H : Pair w b c d) :
    w.cell? ⟨b, 0, none⟩ = some (.int .u8 c.asks) ∧ w.cell? ⟨b, 1, none⟩ = some (.int .u8 c.served) ∧ w.cell? ⟨b, 2, none⟩ = some (.int .u8 c.masked) ∧ w.cell? ⟨b, 3, none⟩ = some (.int .u8 c.up) ∧ w.cell? ⟨b, 4, none⟩ = some (.int .u8 c.base) ∧
    w.cell? ⟨b, 5, none⟩ = some (.bool c.told) ∧ w.cell? ⟨b, 6, none⟩ = some (.bool c.ends) ∧ w.cell? ⟨b, 7, none⟩ = some (.int .i64 c.stage) ∧ w.cell? ⟨b, 8, none⟩ = some (.bool c.second) ∧ w.cell? ⟨b, 9, none⟩ = some (.bool c.last) ∧
    w.cell? ⟨b, 10, none⟩ = some (.int .u8 d.asks) ∧ w.cell? ⟨b, 11, none⟩ = some (.int .u8 d.served) ∧ w.cell? ⟨b, 12, none⟩ = some (.int .u8 d.masked) ∧ w.cell? ⟨b, 13, none⟩ = some (.int .u8 d.up) ∧ w.cell? ⟨b, 14, none⟩ = some (.int .u8 d.base) ∧
    w.cell? ⟨b, 15, none⟩ = some (.bool d.told) ∧ w.cell? ⟨b, 16, none⟩ = some (.bool d.ends) ∧ w.cell? ⟨b, 17, none⟩ = some (.int .i64 d.stage) ∧ w.cell? ⟨b, 18, none⟩ = some (.bool d.second) ∧ w.cell? ⟨b, 19, none⟩ = some (.bool d.last) ∧
    (∀ k, w.frozen? ⟨b, k, none⟩ = false) ∧ b < w.heap.size := by
  unfold Pair at H
  refine ⟨?_, ?_, ?_, ?_, ?_, ?_, ?_, ?_, ?_, ?_, ?_, ?_, ?_, ?_, ?_, ?_, ?_, ?_, ?_, ?_, fun k => free_at H, heap_lt H⟩ <;> (rw [cell_at H]; rfl)

theorem andNot_lt (a m : Nat) (ha : a < 256) : a &&& (255 - m) < 256 := Nat.lt_of_le_of_lt Nat.and_le_left ha

set_option maxHeartbeats 1000000 in
theorem asking1_any (b : Nat) (c d : Chip) (w : World) (H : Pair w b c d) :
    Calls Try.prog 30 #[.pointer (some ⟨b, 0, none⟩), .int .i64 1] w fun e w' => e = .returned (.int .u8 d.asks) ∧ w = w' := by
  have k10 := H.facts.2.2.2.2.2.2.2.2.2.2.1
  go_enter Try.func30, Try.ntmps30
  go_wp2_with fail
  go_ret
  exact ⟨rfl, rfl⟩

/-- Is there a line to be told: of asking lines, a mask, served lines? -/
def isTold (a m s : Nat) : Bool := decide (tz8 (a &&& (255 - m)) < tz8 s)
/-- What a chip's mask leaves of lines. -/
def left (a m : Nat) : Nat := a &&& (255 - m)
theorem left_lt {a m : Nat} (ha : a < 256) : left a m < 256 := andNot_lt a m ha

set_option maxHeartbeats 1000000 in
theorem tells1_any (b : Nat) (c d : Chip) (hd : d.ok) (w : World) (H : Pair w b c d) :
    Calls Try.prog 25 #[.pointer (some ⟨b, 0, none⟩), .int .i64 1] w fun e w' =>
      e = .returned (.tuple #[.int .i64 (tz8 (left d.asks d.masked)), .bool (isTold d.asks d.masked d.served)]) ∧ ∃ n, w' = w.drewN n := by
  obtain ⟨-, -, -, -, -, -, -, -, -, -, k10, k11, k12, -, -, -, -, -, -, -, kf, klt⟩ := H.facts
  have ha := hd.asks
  have hm := hd.masked
  have hs := hd.served
  have hbit := u8_andNot_nat d.asks d.masked ha hm
  have hbit2 : bits .andNot .u8 (d.asks : Int) (d.masked : Int) = ((left d.asks d.masked : Nat) : Int) := hbit
  clear hbit
  have hl := left_lt (m := d.masked) ha
  go_enter Try.func25, Try.ntmps25
  have t0 : 0 ≤ (tz8 (left d.asks d.masked) : Int) := Int.natCast_nonneg _
  go_wp2_with fail
  go_quiet ((first | (go_at_call 30; exact Calls.quiet_of_same ((asking1_any b c d (World.drewN w _) H).mono fun e w' h => ⟨h.1, h.2.symm⟩)) | (go_at_call 35; exact Calls.quiet_of_same ((tz_any _ hl _).mono fun e w' h => ⟨h.1, h.2.symm⟩))))
  go_wp2_with fail
  refine (tz_any _ hs _).mono ?_
  rintro e w1 ⟨rfl, rfl⟩
  go_wp2_with fail
  go_ret2
  exact ⟨rfl, _, rfl⟩

/-- The lines that ask of the first chip. -/
def ask0 (c d : Chip) : Nat := if isTold d.asks d.masked d.served then (c.asks &&& 251) ||| 4 else c.asks &&& 251
theorem ask0_lt (c d : Chip) (hc : c.asks < 256) : ask0 c d < 256 := by
  have h : c.asks &&& 251 < 256 := Nat.lt_of_le_of_lt Nat.and_le_left hc
  unfold ask0
  split
  · exact Nat.or_lt_two_pow (n := 8) h (by decide)
  · exact h

set_option maxHeartbeats 1000000 in
theorem asking0_any (b : Nat) (c d : Chip) (hc : c.ok) (hd : d.ok) (w : World) (H : Pair w b c d) :
    Calls Try.prog 30 #[.pointer (some ⟨b, 0, none⟩), .int .i64 0] w fun e w' => e = .returned (.int .u8 (ask0 c d)) ∧ ∃ n, w' = w.drewN n := by
  have k0 := H.facts.1
  have ha := hc.asks
  have e1 : bits .andNot .u8 (c.asks : Int) 4 = ((c.asks &&& 251 : Nat) : Int) := u8_andNot_nat c.asks 4 ha (by decide)
  have hlt : c.asks &&& 251 < 256 := Nat.lt_of_le_of_lt Nat.and_le_left ha
  have e2 : bits .or .u8 ((c.asks &&& 251 : Nat) : Int) 4 = (((c.asks &&& 251) ||| 4 : Nat) : Int) := u8_or_nat (c.asks &&& 251) 4 hlt (by decide)
  have E1 := Lib.hid e1
  have E2 := Lib.hid e2
  have HD := Lib.hid hd
  clear e1 e2 hc hd
  cases ht : isTold d.asks d.masked d.served
  all_goals
    have HT := Lib.hid ht
    clear ht
    go_enter Try.func30, Try.ntmps30
    go_wp2_with fail
    rw [E1.out]
    refine (tells1_any b c d HD.out _ H).mono ?_
    rintro e w1 ⟨rfl, n, rfl⟩
    rw [HT.out]
    go_wp2_with fail
    go_ret
    refine ⟨?_, n, rfl⟩
    unfold ask0
    rw [HT.out]
    first | rfl | (rw [if_pos rfl, ← E2.out]; rfl)

set_option maxHeartbeats 1000000 in
theorem tells0_any (b : Nat) (c d : Chip) (hc : c.ok) (hd : d.ok) (w : World) (H : Pair w b c d) :
    Calls Try.prog 25 #[.pointer (some ⟨b, 0, none⟩), .int .i64 0] w fun e w' =>
      e = .returned (.tuple #[.int .i64 (tz8 (left (ask0 c d) c.masked)), .bool (isTold (ask0 c d) c.masked c.served)]) ∧ ∃ n, w' = w.drewN n := by
  obtain ⟨k0, k1, k2, -, -, -, -, -, -, -, -, -, -, -, -, -, -, -, -, -, kf, klt⟩ := H.facts
  have ha := ask0_lt c d hc.asks
  have hm := hc.masked
  have hs := hc.served
  have hbit2 : bits .andNot .u8 (ask0 c d : Int) (c.masked : Int) = ((left (ask0 c d) c.masked : Nat) : Int) := u8_andNot_nat (ask0 c d) c.masked ha hm
  have hl := left_lt (m := c.masked) ha
  have HC := Lib.hid hc
  have HD := Lib.hid hd
  clear hc hd
  have t0 : 0 ≤ (tz8 (left (ask0 c d) c.masked) : Int) := Int.natCast_nonneg _
  go_enter Try.func25, Try.ntmps25
  go_wp2_with fail
  go_quiet ((first | (go_at_call 30; exact Calls.quiet_of (asking0_any b c d HC.out HD.out (World.drewN w _) H)) | (go_at_call 35; exact Calls.quiet_of_same ((tz_any _ hl _).mono fun e w' h => ⟨h.1, h.2.symm⟩))))
  go_wp2_with fail
  refine (tz_any _ hs _).mono ?_
  rintro e w1 ⟨rfl, rfl⟩
  go_wp2_with fail
  go_ret2
  exact ⟨rfl, _, rfl⟩

set_option maxHeartbeats 1000000 in
theorem pending_any (b : Nat) (c d : Chip) (hc : c.ok) (hd : d.ok) (w : World) (H : Pair w b c d) :
    Calls Try.prog 12 #[.pointer (some ⟨b, 0, none⟩)] w fun e w' => e = .returned (.bool (isTold (ask0 c d) c.masked c.served)) ∧ ∃ n, w' = w.drewN n := by
  go_enter Try.func12, Try.ntmps12
  go_wp2_with fail
  refine (tells0_any b c d hc hd _ H).mono ?_
  rintro e w1 ⟨rfl, n, rfl⟩
  go_wp2_with fail
  go_ret
  exact ⟨rfl, n, rfl⟩
theorem pending_nil (w : World) : Calls Try.prog 12 #[.pointer none] w fun e w' => e = .returned (.bool false) ∧ w = w' := by
  go_enter Try.func12, Try.ntmps12
  go_wp2_with fail
  go_ret
  exact ⟨rfl, rfl⟩
end Go.Proofs.Ytfijohgbgadhiaa
