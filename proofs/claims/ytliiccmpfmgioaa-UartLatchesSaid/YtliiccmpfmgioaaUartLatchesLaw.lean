/- 'drawloom/drawloomlaw13.UartLatches' answers true for every input. Conditions: none. -/
import Derived.Test.YtliiccmpfmgioaaFrame
import Derived.Test.YtliiccmpfmgioaaUartG
namespace Go.Proofs.Ytliiccmpfmgioaa.uartLatches
open Go.ChangeShapes Go.WideShapes Go.ChangeAt Go.RowKit
set_option linter.unusedVariables false

def L (d0 d1 lcr wanted : Nat) (e : Bool) (s : List Nat) : Ut := ⟨[], false, false, e, d0, d1, lcr, 0, 0, wanted, s⟩
theorem e1 : Ut.new.out 3 131 = L 0 0 131 0 false [] := by kernel_rfl
theorem e2 (lo : Nat) : (L 0 0 131 0 false []).out 0 lo = L lo 0 131 0 false [] := by kernel_rfl
theorem e3 (lo hi : Nat) : (L lo 0 131 0 false []).out 1 hi = L lo hi 131 0 false [] := by kernel_rfl
theorem e4 (lo hi : Nat) : (L lo hi 131 0 false []).quit = L lo hi 131 0 false [] := by kernel_rfl
theorem e5 (lo hi : Nat) : (L lo hi 131 0 false []).out 3 3 = L lo hi 3 0 false [] := by kernel_rfl
theorem e6 (lo hi s : Nat) : (L lo hi 3 0 false []).out 0 s = L lo hi 3 0 true [s] := by kernel_rfl
theorem e7 (lo hi s t : Nat) : (L lo hi 3 0 true [s]).out 1 t = L lo hi 3 (t % 16) true [s] := by kernel_rfl
theorem e8 (lo hi s y : Nat) : (L lo hi 3 y true [s]).quit = L lo hi 3 y true [] := by kernel_rfl
theorem e9 (lo hi y : Nat) : (L lo hi 3 y true []).inV 1 = y := by kernel_rfl
theorem e10 (lo hi y : Nat) : (L lo hi 3 y true []).inS 1 = L lo hi 3 y true [] := by kernel_rfl
theorem e11 (lo hi y : Nat) : (L lo hi 3 y true []).out 3 128 = L lo hi 128 y true [] := by kernel_rfl
theorem e12 (lo hi y : Nat) : (L lo hi 128 y true []).inV 0 = lo := by kernel_rfl
theorem e13 (lo hi y : Nat) : (L lo hi 128 y true []).inS 0 = L lo hi 128 y true [] := by kernel_rfl
theorem e14 (lo hi y : Nat) : (L lo hi 128 y true []).inV 1 = hi := by kernel_rfl
theorem e15 (lo hi y : Nat) : (L lo hi 128 y true []).inS 1 = L lo hi 128 y true [] := by kernel_rfl
theorem e16 (lo hi y : Nat) : (L lo hi 128 y true []).inV 3 = 128 := by kernel_rfl
set_option maxHeartbeats 2000000 in
theorem walk (a0 : Int) (l0 : 0 ≤ a0) (u0 : a0 ≤ 255) (a1 : Int) (l1 : 0 ≤ a1) (u1 : a1 ≤ 255) (a2 : Int) (l2 : 0 ≤ a2) (u2 : a2 ≤ 255) (a3 : Int) (l3 : 0 ≤ a3) (u3 : a3 ≤ 255) (w : World) :
    Calls Try.prog 4 #[.int .u8 a0, .int .u8 a1, .int .u8 a2, .int .u8 a3] w fun e w' => e = .returned (.bool true) ∧ Below w.heap.size w w' := by
  obtain ⟨lo, rfl⟩ := Int.eq_ofNat_of_zero_le l0
  obtain ⟨hi, rfl⟩ := Int.eq_ofNat_of_zero_le l1
  obtain ⟨s, rfl⟩ := Int.eq_ofNat_of_zero_le l2
  obtain ⟨t, rfl⟩ := Int.eq_ofNat_of_zero_le l3
  have HLO := Lib.hid (show lo < 256 by omega)
  have HHI := Lib.hid (show hi < 256 by omega)
  have HS := Lib.hid (show s < 256 by omega)
  have HT := Lib.hid (show t < 256 by omega)
  obtain ⟨y, hy⟩ : ∃ y, y = t % 16 := ⟨_, rfl⟩
  have HY := Lib.hid hy
  have hy2 : (t : Int) % 16 = (y : Int) := by omega
  clear hy
  go_enter Try.func4, Try.ntmps4
  go_wp2_with fail
  refine (awake_any _).mono ?_
  rintro e w1 ⟨rfl, B1⟩
  go_wp2_with fail
  refine (new_at w1).mono ?_
  rintro e w2 ⟨b, rfl, A⟩
  go_wp2_with fail
  refine (out_at A 3 131 (by decide) (by decide)).mono ?_
  rintro e w3 ⟨rfl, A3⟩
  rw [e1] at A3
  go_wp2_with fail
  refine (out_at A3 0 lo HLO.out (by decide)).mono ?_
  rintro e w4 ⟨rfl, A4⟩
  rw [e2] at A4
  go_wp2_with fail
  refine (out_at A4 1 hi HHI.out (by show 0 + 1 ≤ _; decide)).mono ?_
  rintro e w5 ⟨rfl, A5⟩
  rw [e3] at A5
  clear A A3 A4
  go_wp2_with fail
  refine (sent_at A5).mono ?_
  rintro e w6 ⟨v, rfl, R, hv, A6, -⟩
  have R : w6.ownsRow 0 5 1 v 0 [] := R
  rw [e4] at A6
  obtain ⟨a, c, rfl⟩ := row_len R
  clear R hv
  go_wp2_with fail
  refine (out_at A6 3 3 (by decide) (by show 0 + 1 ≤ _; decide)).mono ?_
  rintro e w7 ⟨rfl, A7⟩
  rw [e5] at A7
  go_wp2_with fail
  refine (out_at A7 0 s HS.out (by show 0 + 1 ≤ _; decide)).mono ?_
  rintro e w8 ⟨rfl, A8⟩
  rw [e6] at A8
  go_wp2_with fail
  refine (out_at A8 1 t HT.out (by show 1 + 1 ≤ _; decide)).mono ?_
  rintro e w9 ⟨rfl, A9⟩
  rw [e7, ← HY.out] at A9
  clear A5 A6 A7 A8
  go_wp2_with fail
  refine (sent_at A9).mono ?_
  rintro e w10 ⟨v, rfl, R, hv, A10, -⟩
  have R : w10.ownsRow 0 5 1 v 1 (bytesV [s]) := R
  obtain ⟨g, c', rfl, hc, hg⟩ := byte_at (L := [s]) R 0 s rfl
  rw [e8] at A10
  have HC := Lib.hid hc
  clear R hv hc hg A9
  go_wp2_with fail
  refine (in_at A10 1).mono ?_
  rintro e w11 ⟨rfl, A11⟩
  rw [e9]
  rw [e10] at A11
  go_wp2_with fail
  refine (out_at A11 3 128 (by decide) (by show 0 + 1 ≤ _; decide)).mono ?_
  rintro e w12 ⟨rfl, A12⟩
  rw [e11] at A12
  go_wp2_with fail
  refine (in_at A12 0).mono ?_
  rintro e w13 ⟨rfl, A13⟩
  rw [e12]
  rw [e13] at A13
  go_wp2_with fail
  refine (in_at A13 1).mono ?_
  rintro e w14 ⟨rfl, A14⟩
  rw [e14]
  rw [e15] at A14
  go_wp2_with fail
  refine (in_at A14 3).mono ?_
  rintro e w15 ⟨rfl, A15⟩
  rw [e16]
  have hc : w15.cell? ⟨g, 0, none⟩ = some (.int .u8 (s : Nat)) := (World.cell?_of_block (A15.kept (.inr rfl))).trans HC.out
  have hg : g < w15.heap.size := cell_block_lt hc
  have HB := Lib.hid (B1.trans (A15.below.mono B1.size))
  clear A10 A11 A12 A13 A14 A15
  go_wp2_with fail
  go_ret
  exact ⟨rfl, HB.out⟩

set_option maxRecDepth 100000 in
theorem lifted (os : Os) (started : os.Started) (H : Type) (enc : TypeId × Value → H) :
    ReturnsInHanded {} Try.checked os 4 .any (Rows.uartLatchesSpec.pre6 enc Try.prog Try.f4 Rows.uartLatchesRow.domain false) (Rows.uartLatchesSpec.post enc Try.prog Try.f4 false true false false) := by
  refine returnsInHanded_of_change (C := Try.checked) own started (by kernel_rfl) Try.func4
    (ChangeSpec.witness6 (enc := enc) (C := Try.checked) false ⟨#[], #[.int .u8 0, .int .u8 0, .int .u8 0, .int .u8 0], []⟩ 8 (by kernel_rfl) (by kernel_rfl) (by kernel_rfl) (by kernel_rfl)) ?_
  intro W base args ds gs before hval0 hW hcnd _
  have hval : ∀ (j : Nat) t v, Try.f4.params[j]? = some t → args[j]? = some v → Value.okWide Try.prog W .any base t v := hval0
  have hW' := hW
  obtain ⟨p, q, hA0, hV, rfl, hfz, hnd⟩ := hW
  have hA : DataW.TrodAll enc Try.prog W 0 (fun _ => true) true Try.f4.params.toList args.toList ds p := hA0
  rw [Try.params4] at hA hval
  obtain ⟨v0, vs0, d0, ds0, p0, q0, hargs, rfl, rfl, h0, r0⟩ := trodAll_cons hA
  obtain ⟨v1, vs1, d1, ds1, p1, q1, rfl, rfl, rfl, h1, r1⟩ := trodAll_cons r0
  obtain ⟨v2, vs2, d2, ds2, p2, q2, rfl, rfl, rfl, h2, r2⟩ := trodAll_cons r1
  obtain ⟨v3, vs3, d3, ds3, p3, q3, rfl, rfl, rfl, h3, r3⟩ := trodAll_cons r2
  obtain ⟨rfl, rfl, rfl⟩ := trodAll_nil r3
  obtain rfl : args = #[v0, v1, v2, v3] := by cases args; simp_all
  clear hA0 hval0
  obtain ⟨a0, rfl, l0, u0⟩ := arg_int Try.underlying5 (hval 0 5 v0 rfl rfl)
  obtain ⟨a1, rfl, l1, u1⟩ := arg_int Try.underlying5 (hval 1 5 v1 rfl rfl)
  obtain ⟨a2, rfl, l2, u2⟩ := arg_int Try.underlying5 (hval 2 5 v2 rfl rfl)
  obtain ⟨a3, rfl, l3, u3⟩ := arg_int Try.underlying5 (hval 3 5 v3 rfl rfl)
  exact law_end (by kernel_rfl) hW' rfl (by kernel_rfl) Try.underlying4 rfl rfl (walk a0 l0 u0 a1 l1 u1 a2 l2 u2 a3 l3 u3 W)

theorem proved : Rows.UartLatchesSaid :=
  OpenClaim.holds_of_wide 4 Try.f4 rfl rfl rfl rfl rfl rfl rfl ⟨rfl, rfl, rfl, rfl, rfl⟩ rfl rfl rfl rfl rfl (by kernel_rfl) Try.func4 (by kernel_rfl)
    (of_decide_eq_true (by kernel_rfl)) (by unfold Func.isWrapper; first | (rw [if_pos (by decide +kernel)]; kernel_rfl) | (rw [if_neg (by decide +kernel)]; exact ⟨rfl, rfl⟩))
    (fun os started H enc _ => lifted os started H enc)
#print axioms proved
end Go.Proofs.Ytliiccmpfmgioaa.uartLatches
