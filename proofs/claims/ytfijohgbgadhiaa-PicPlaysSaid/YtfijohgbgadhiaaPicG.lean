/- pic: with; Out; In; New. -/
import Derived.Test.YtfijohgbgadhiaaPicF
import Derived.Test.YtfijohgbgadhiaaPicC
import Derived.Laws.EntriesVeiled
namespace Go.Proofs.Ytfijohgbgadhiaa
open Go.RowKit
set_option linter.unusedVariables false
set_option linter.unusedSimpArgs false

theorem cfOut (args : Array Value) (w : World) : (callFunc 23 args).run Try.prog w = .ok (Next.enter 23 args) w := by kernel_rfl
theorem cfIn (args : Array Value) (w : World) : (callFunc 29 args).run Try.prog w = .ok (Next.enter 29 args) w := by kernel_rfl

set_option maxHeartbeats 1000000 in
theorem with_out_0 (b k : Nat) (c d : Chip) (hok : c.ok) (v : Nat) (hv : v < 256) (w : World) (H : Pair w b c d) (kv : w.cell? ⟨k, 0, none⟩ = some (.int .u8 v)) (hkb : k ≠ b) :
    Calls Try.prog 22 #[.pointer (some ⟨b, 0, none⟩), .int .i64 0, .func (.func 23) #[] #[.pointer (some ⟨k, 0, none⟩)]] w fun r w' => r = .returned (.int .i64 0) ∧ Pair w' b (outC c true v) d ∧ Keeps (· = b) w w' := by
  have hcf := cfOut
  have kf := H.facts.2.2.2.2.2.2.2.2.2.2.2.2.2.2.2.2.2.2.2.2.1
  have hx := out1_c b k c d hok true v hv w H kv hkb
  have HX := Lib.hid hx
  clear hx
  go_enter Try.func22, Try.ntmps22
  go_wp2_with fail
  refine HX.out.mono ?_
  rintro r w1 ⟨rfl, H1, hk⟩
  go_wp2_with fail
  go_returns
  exact ⟨rfl, H1, hk⟩

set_option maxHeartbeats 1000000 in
theorem with_out_1 (b k : Nat) (c d : Chip) (hok : c.ok) (v : Nat) (hv : v < 256) (w : World) (H : Pair w b c d) (kv : w.cell? ⟨k, 0, none⟩ = some (.int .u8 v)) (hkb : k ≠ b) :
    Calls Try.prog 22 #[.pointer (some ⟨b, 0, none⟩), .int .i64 1, .func (.func 23) #[] #[.pointer (some ⟨k, 0, none⟩)]] w fun r w' => r = .returned (.int .i64 0) ∧ Pair w' b (outC c false v) d ∧ Keeps (· = b) w w' := by
  have hcf := cfOut
  have kf := H.facts.2.2.2.2.2.2.2.2.2.2.2.2.2.2.2.2.2.2.2.2.1
  have hx := out1_c b k c d hok false v hv w H kv hkb
  have HX := Lib.hid hx
  clear hx
  go_enter Try.func22, Try.ntmps22
  go_wp2_with fail
  refine HX.out.mono ?_
  rintro r w1 ⟨rfl, H1, hk⟩
  go_wp2_with fail
  go_returns
  exact ⟨rfl, H1, hk⟩

set_option maxHeartbeats 1000000 in
theorem with_out_2 (b k : Nat) (c d : Chip) (hok : d.ok) (v : Nat) (hv : v < 256) (w : World) (H : Pair w b c d) (kv : w.cell? ⟨k, 0, none⟩ = some (.int .u8 v)) (hkb : k ≠ b) :
    Calls Try.prog 22 #[.pointer (some ⟨b, 0, none⟩), .int .i64 2, .func (.func 23) #[] #[.pointer (some ⟨k, 0, none⟩)]] w fun r w' => r = .returned (.int .i64 0) ∧ Pair w' b c (outC d true v) ∧ Keeps (· = b) w w' := by
  have hcf := cfOut
  have kf := H.facts.2.2.2.2.2.2.2.2.2.2.2.2.2.2.2.2.2.2.2.2.1
  have hx := out1_d b k c d hok true v hv w H kv hkb
  have HX := Lib.hid hx
  clear hx
  go_enter Try.func22, Try.ntmps22
  go_wp2_with fail
  refine HX.out.mono ?_
  rintro r w1 ⟨rfl, H1, hk⟩
  go_wp2_with fail
  go_returns
  exact ⟨rfl, H1, hk⟩

set_option maxHeartbeats 1000000 in
theorem with_out_3 (b k : Nat) (c d : Chip) (hok : d.ok) (v : Nat) (hv : v < 256) (w : World) (H : Pair w b c d) (kv : w.cell? ⟨k, 0, none⟩ = some (.int .u8 v)) (hkb : k ≠ b) :
    Calls Try.prog 22 #[.pointer (some ⟨b, 0, none⟩), .int .i64 3, .func (.func 23) #[] #[.pointer (some ⟨k, 0, none⟩)]] w fun r w' => r = .returned (.int .i64 0) ∧ Pair w' b c (outC d false v) ∧ Keeps (· = b) w w' := by
  have hcf := cfOut
  have kf := H.facts.2.2.2.2.2.2.2.2.2.2.2.2.2.2.2.2.2.2.2.2.1
  have hx := out1_d b k c d hok false v hv w H kv hkb
  have HX := Lib.hid hx
  clear hx
  go_enter Try.func22, Try.ntmps22
  go_wp2_with fail
  refine HX.out.mono ?_
  rintro r w1 ⟨rfl, H1, hk⟩
  go_wp2_with fail
  go_returns
  exact ⟨rfl, H1, hk⟩

/-- A port is one of four. -/
def portGood (n : Int) : Bool := decide (0 ≤ n) && decide (n ≤ 3)
/-- The answer of a call on a port. -/
def perr (n : Int) : Int := if portGood n then 0 else 1
theorem perr_bad {n : Int} (h : portGood n = false) : perr n = 1 := by unfold perr; rw [h]; rfl
set_option maxHeartbeats 1000000 in
theorem with_bad (b : Nat) (f : Value) (n : Int) (h : n < 0 ∨ 3 < n) (w : World) :
    Calls Try.prog 22 #[.pointer (some ⟨b, 0, none⟩), .int .i64 n, f] w fun r w' => r = .returned (.int .i64 1) ∧ w = w' := by
  rcases h with h | h
  all_goals
    go_enter Try.func22, Try.ntmps22
    go_wp2_with fail
    go_returns
    exact ⟨rfl, rfl⟩
theorem with_nil (f : Value) (n : Int) (w : World) :
    Calls Try.prog 22 #[.pointer none, .int .i64 n, f] w fun r w' => r = .returned (.int .i64 1) ∧ w = w' := by
  go_enter Try.func22, Try.ntmps22
  go_wp2_with fail
  go_returns
  exact ⟨rfl, rfl⟩

def otc (c : Chip) (n : Int) (v : Nat) : Chip := if n = 0 then outC c true v else if n = 1 then outC c false v else c
def otd (d : Chip) (n : Int) (v : Nat) : Chip := if n = 2 then outC d true v else if n = 3 then outC d false v else d

theorem with_out (b k : Nat) (c d : Chip) (hc : c.ok) (hd : d.ok) (n : Int) (v : Nat) (hv : v < 256) (w : World) (H : Pair w b c d) (kv : w.cell? ⟨k, 0, none⟩ = some (.int .u8 v)) (hkb : k ≠ b) :
    Calls Try.prog 22 #[.pointer (some ⟨b, 0, none⟩), .int .i64 n, .func (.func 23) #[] #[.pointer (some ⟨k, 0, none⟩)]] w fun r w' => r = .returned (.int .i64 (perr n)) ∧ Pair w' b (otc c n v) (otd d n v) ∧ Keeps (· = b) w w' := by
  by_cases hn : 0 ≤ n ∧ n ≤ 3
  · obtain rfl | rfl | rfl | rfl : n = 0 ∨ n = 1 ∨ n = 2 ∨ n = 3 := by omega
    · exact with_out_0 b k c d hc v hv w H kv hkb
    · exact with_out_1 b k c d hc v hv w H kv hkb
    · exact with_out_2 b k c d hd v hv w H kv hkb
    · exact with_out_3 b k c d hd v hv w H kv hkb
  · have h0 : portGood n = false := by
      unfold portGood
      rw [← Bool.decide_and]
      exact decide_eq_false hn
    refine (with_bad b _ n (by omega) w).mono ?_
    rintro e w1 ⟨rfl, rfl⟩
    have u1 : otc c n v = c := by unfold otc; rw [if_neg (by omega), if_neg (by omega)]
    have u2 : otd d n v = d := by unfold otd; rw [if_neg (by omega), if_neg (by omega)]
    rw [perr_bad h0, u1, u2]
    exact ⟨rfl, H, Keeps.refl _ _⟩

set_option maxHeartbeats 1000000 in
theorem out_any (b : Nat) (c d : Chip) (hc : c.ok) (hd : d.ok) (n : Int) (v : Nat) (hv : v < 256) (w : World) (H : Pair w b c d) :
    Calls Try.prog 10 #[.pointer (some ⟨b, 0, none⟩), .int .i64 n, .int .u8 v] w fun r w' => r = .returned (.int .i64 (perr n)) ∧ Pair w' b (otc c n v) (otd d n v) ∧ Keeps (· = b) w w' := by
  have hlt := heap_lt H
  go_enter Try.func10, Try.ntmps10
  go_wp2_with fail
  refine (with_out b w.heap.size c d hc hd n v hv _ (heap_alloc_lt H) (by rw [cell_at (heap_new w (.cells #[.int .u8 v] _))]; rfl) (by omega)).mono ?_
  rintro r w1 ⟨rfl, H1, hk⟩
  go_wp2_with fail
  go_returns
  exact ⟨rfl, H1, Keeps.trans ((Keeps.refl _ _).alloc _) hk⟩
set_option maxHeartbeats 1000000 in
theorem out_nil (n v : Int) (w : World) :
    Calls Try.prog 10 #[.pointer none, .int .i64 n, .int .u8 v] w fun r w' => r = .returned (.int .i64 1) ∧ Below w.heap.size w w' := by
  go_enter Try.func10, Try.ntmps10
  go_wp2_with fail
  refine (with_nil _ n _).mono ?_
  rintro r w1 ⟨rfl, rfl⟩
  go_wp2_with fail
  go_returns
  exact ⟨rfl, by go_grown⟩
end Go.Proofs.Ytfijohgbgadhiaa
