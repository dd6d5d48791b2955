/- pit: the five functions of the modes, and looking a mode up. -/
import Derived.Test.YtehobiccbfkbjaaPitModes
namespace Go.Proofs.Ytehobiccbfkbjaa
open Go.RowKit
set_option linter.unusedVariables false

theorem look_hit (n : Nat) (W : World) (h : W.heap[n]? = some (.map modeEs 3)) (m : Int) (i : Nat) (v : Value)
    (hf : Instr.findNow (.int .u8) (.int .u8 m) modeEs.toList 0 = some (some (i, v))) :
    (Instr.lookup 52 (.map (some n)) (.int .u8 m) true).run Try.prog W = .ok (.tuple #[v, .bool true]) W := by
  have hk : Try.prog.underlying 5 = some (.int .u8) := Try.underlying5
  have hf' : (Instr.findKey 5 (.int .u8 m) modeEs.toList).run Try.prog W = .ok (some (i, v)) W := MapKept.run_findKey hk hf
  simp [Instr.lookup, go_sem, MapKept.run_getObj_map h, MapKept.run_checkKey hk (show MapKept.IsKey (.int .u8) (.int .u8 m) from rfl), hf']

theorem look_miss (n : Nat) (W : World) (h : W.heap[n]? = some (.map modeEs 3)) (m : Int) (h0 : m ≠ 0) (h2 : m ≠ 2) (h3 : m ≠ 3) :
    (Instr.lookup 52 (.map (some n)) (.int .u8 m) true).run Try.prog W = .ok (.tuple #[.agg #[.nilFunc, .nilFunc], .bool false]) W := by
  have hk : Try.prog.underlying 5 = some (.int .u8) := Try.underlying5
  have hf : Instr.findNow (.int .u8) (.int .u8 m) modeEs.toList 0 = some none := by
    have e0 : (m == 0) = false := by simp [h0]
    have e2 : (m == 2) = false := by simp [h2]
    have e3 : (m == 3) = false := by simp [h3]
    simp [Instr.findNow, Instr.sameNow, modeEs, e0, e2, e3]
  have hf' : (Instr.findKey 5 (.int .u8 m) modeEs.toList).run Try.prog W = .ok none W := MapKept.run_findKey hk hf
  have hz : (zeroValue 50).run Try.prog W = .ok (.agg #[.nilFunc, .nilFunc]) W := by kernel_rfl
  simp [Instr.lookup, go_sem, MapKept.run_getObj_map h, MapKept.run_checkKey hk (show MapKept.IsKey (.int .u8) (.int .u8 m) from rfl), hf', hz]

theorem look0 (n : Nat) (W : World) (h : W.heap[n]? = some (.map modeEs 3)) : (Instr.lookup 52 (.map (some n)) (.int .u8 0) true).run Try.prog W =
    .ok (.tuple #[.agg #[.func (.func 17) #[] #[], .func (.func 18) #[] #[]], .bool true]) W := look_hit n W h 0 0 _ rfl
theorem look2 (n : Nat) (W : World) (h : W.heap[n]? = some (.map modeEs 3)) : (Instr.lookup 52 (.map (some n)) (.int .u8 2) true).run Try.prog W =
    .ok (.tuple #[.agg #[.func (.func 16) #[] #[], .func (.func 19) #[] #[]], .bool true]) W := look_hit n W h 2 1 _ rfl
theorem look3 (n : Nat) (W : World) (h : W.heap[n]? = some (.map modeEs 3)) : (Instr.lookup 52 (.map (some n)) (.int .u8 3) true).run Try.prog W =
    .ok (.tuple #[.agg #[.func (.func 16) #[] #[], .func (.func 20) #[] #[]], .bool true]) W := look_hit n W h 3 2 _ rfl

section
variable (l n : Int) (w : World) (h0 : 1 ≤ l) (h1 : l ≤ 65536) (h2 : 0 ≤ n) (h3 : n < 18446744073709551616)
include h0 h1 h2 h3
set_option maxHeartbeats 400000 in
theorem m1_any : Calls Try.prog 16 #[.int .u64 l, .int .u64 n] w fun e w' => e = .returned (.int .u64 (l - n % l)) ∧ w = w' := by
  have hm0 := Int.emod_nonneg n (show l ≠ 0 by omega)
  have hm1 := Int.emod_lt_of_pos n (show 0 < l by omega)
  have hl : (l == 0) = false := by simp; omega
  go_enter Try.func16, Try.ntmps16
  go_wp2
  go_ret
  exact ⟨rfl, rfl⟩
omit h0 h1 h2 h3 in
set_option maxHeartbeats 400000 in
theorem m2_any : Calls Try.prog 17 #[.int .u64 l, .int .u64 n] w fun e w' => e = .returned (.int .u64 ((l - n) % 18446744073709551616)) ∧ w = w' := by
  go_enter Try.func17, Try.ntmps17
  go_wp2
  go_ret
  exact ⟨rfl, rfl⟩
omit h0 h1 h2 h3 in
set_option maxHeartbeats 400000 in
theorem m3_any : Calls Try.prog 18 #[.int .u64 l, .int .u64 n] w fun e w' => e = .returned (.bool (decide (l ≤ n))) ∧ w = w' := by
  go_enter Try.func18, Try.ntmps18
  go_wp2
  go_ret
  exact ⟨rfl, rfl⟩
set_option maxHeartbeats 400000 in
theorem m4_any : Calls Try.prog 19 #[.int .u64 l, .int .u64 n] w fun e w' => e = .returned (.bool (n % l != l - 1)) ∧ w = w' := by
  have hm0 := Int.emod_nonneg n (show l ≠ 0 by omega)
  have hm1 := Int.emod_lt_of_pos n (show 0 < l by omega)
  have hl : (l == 0) = false := by simp; omega
  go_enter Try.func19, Try.ntmps19
  go_wp2
  go_ret
  exact ⟨rfl, rfl⟩
set_option maxHeartbeats 400000 in
theorem m5_any : Calls Try.prog 20 #[.int .u64 l, .int .u64 n] w fun e w' => e = .returned (.bool (decide (n % l < (l + 1) / 2))) ∧ w = w' := by
  have hm0 := Int.emod_nonneg n (show l ≠ 0 by omega)
  have hm1 := Int.emod_lt_of_pos n (show 0 < l by omega)
  have hl : (l == 0) = false := by simp; omega
  go_enter Try.func20, Try.ntmps20
  go_wp2
  go_ret
  exact ⟨rfl, rfl⟩
end
end Go.Proofs.Ytehobiccbfkbjaa
