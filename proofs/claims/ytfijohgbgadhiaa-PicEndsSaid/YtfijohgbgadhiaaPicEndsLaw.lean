/- 'drawloom/drawloomlaw11.PicEnds' answers true for every input. Conditions: none. -/
import Derived.Test.YtfijohgbgadhiaaFrame
import Derived.Test.YtfijohgbgadhiaaPicJ
namespace Go.Proofs.Ytfijohgbgadhiaa.picEnds
open Go.ChangeShapes Go.WideShapes Go.ChangeAt Go.RowKit
set_option linter.unusedVariables false

def s0 (e : Bool) : Chip := Chip.mk 0 0 0 0 64 false e 0 true true
def s1 (L : Int) : Chip := Chip.mk 0 (2 ^ L.toNat) 0 0 64 false false 0 true true
def goodL (L : Int) : Prop := L = 0 ∨ L = 1 ∨ L = 3 ∨ L = 4 ∨ L = 5 ∨ L = 6 ∨ L = 7
/-- The chip behind j rounds. -/
def stE (e : Bool) (L : Int) (j : Nat) : Chip := if e then s0 true else if j = 0 then s0 false else s1 L
/-- What was told in j rounds. -/
def tol (e : Bool) (j : Nat) : Int := if e then j else if j = 0 then 0 else 1
theorem s0_ok (e : Bool) : (s0 e).ok := mk_ok _ _ _ _ _ _ _ _ _ _ (by decide) (by decide) (by decide) (by decide) (by decide) (by decide)
theorem s1_ok {L : Int} (h : goodL L) : (s1 L).ok := by
  rcases h with rfl | rfl | rfl | rfl | rfl | rfl | rfl <;> exact mk_ok _ _ _ _ _ _ _ _ _ _ (by decide) (by decide) (by decide) (by decide) (by decide) (by decide)
theorem f1 {L : Int} (h : goodL L) (e : Bool) : isTold (ask0 (lnc (s0 e) L true) chip0) (lnc (s0 e) L true).masked (lnc (s0 e) L true).served = true := by
  rcases h with rfl | rfl | rfl | rfl | rfl | rfl | rfl <;> cases e <;> decide +kernel
theorem f2 {L : Int} (h : goodL L) (e : Bool) : ((vec0 (lnc (s0 e) L true) chip0 : Nat) : Int) = 64 + L := by
  rcases h with rfl | rfl | rfl | rfl | rfl | rfl | rfl <;> cases e <;> decide +kernel
theorem f3 {L : Int} (h : goodL L) (e : Bool) : lnc (tkc (lnc (s0 e) L true) chip0) L false = (if e then s0 true else s1 L) := by
  rcases h with rfl | rfl | rfl | rfl | rfl | rfl | rfl <;> cases e <;> kernel_rfl
theorem f3d {L : Int} (h : goodL L) (e : Bool) : tkd (lnc (s0 e) L true) chip0 = chip0 := by
  rcases h with rfl | rfl | rfl | rfl | rfl | rfl | rfl <;> cases e <;> kernel_rfl
theorem fd {L : Int} (h : goodL L) (u : Bool) : lnd chip0 L u = chip0 := by
  rcases h with rfl | rfl | rfl | rfl | rfl | rfl | rfl <;> rfl
theorem f4 {L : Int} (h : goodL L) : isTold (ask0 (lnc (s1 L) L true) chip0) (lnc (s1 L) L true).masked (lnc (s1 L) L true).served = false := by
  rcases h with rfl | rfl | rfl | rfl | rfl | rfl | rfl <;> decide +kernel
theorem f5 {L : Int} (h : goodL L) : lnc (lnc (s1 L) L true) L false = s1 L := by
  rcases h with rfl | rfl | rfl | rfl | rfl | rfl | rfl <;> kernel_rfl
theorem f6 : isTold (ask0 (s0 true) chip0) (s0 true).masked (s0 true).served = false := by decide +kernel
theorem f7 {L : Int} (h : goodL L) : isTold (ask0 (otc (lnc (s1 L) L true) 0 32) chip0) (otc (lnc (s1 L) L true) 0 32).masked (otc (lnc (s1 L) L true) 0 32).served = true := by
  rcases h with rfl | rfl | rfl | rfl | rfl | rfl | rfl <;> decide +kernel

set_option maxRecDepth 100000 in
set_option maxHeartbeats 4000000 in
theorem walk (l : Int) (l0 : IntKind.i64.min ≤ l) (l1 : l ≤ IntKind.i64.max) (t : Int) (t0 : IntKind.i64.min ≤ t) (t1 : t ≤ IntKind.i64.max) (e : Bool) (w : World) :
    Calls Try.prog 5 #[.int .i64 l, .int .i64 t, .bool e] w fun r w' => r = .returned (.bool true) ∧ Below w.heap.size w w' := by
  have l2 : -9223372036854775808 ≤ l := l0
  have l3 : l ≤ 9223372036854775807 := l1
  have t2 : -9223372036854775808 ≤ t := t0
  have t3 : t ≤ 9223372036854775807 := t1
  clear l0 l1 t0 t1
  go_enter Try.func5, Try.ntmps5
  go_wp2_with fail
  refine (awake_any _).mono ?_
  rintro r w0 ⟨rfl, b0⟩
  go_wp2_with fail
  refine (new_any _).mono ?_
  rintro r w1 ⟨rfl, H1, b1⟩
  go_upto_if 23 with (fail)
  go_cut [0] from 14 (fun x wc => ∃ y : Int, x = .int .i64 y ∧ 0 ≤ y ∧ y ≤ 9223372036854775807 ∧ w1 = wc)
  case first =>
    by_cases hl : l < 0
    all_goals
      go_wp2_with fail
      go_meet
      exact ⟨_, rfl, by omega, by omega, rfl⟩
  case rest =>
    obtain ⟨y, rfl, y0, y1, rfl⟩ := hcut
    go_upto_if 28 with (fail)
    go_cut [1] from 14 (fun x wc => ∃ y : Int, x = .int .i64 y ∧ 0 ≤ y ∧ y ≤ 9223372036854775807 ∧ w1 = wc)
    case first =>
      by_cases ht : t < 0
      all_goals
        go_wp2_with fail
        go_meet
        exact ⟨_, rfl, by omega, by omega, rfl⟩
    case rest =>
      obtain ⟨z, rfl, z0, z1, rfl⟩ := hcut
      have ey : y.tmod 8 = y % 8 := Int.tmod_eq_emod_of_nonneg y0
      have ez : z.tmod 20 = z % 20 := Int.tmod_eq_emod_of_nonneg z0
      have y8 : 0 ≤ y % 8 := by omega
      have y9 : y % 8 < 8 := by omega
      go_upto_if 35 with (fail)
      go_cut [0] from 14 (fun x wc => ∃ L : Int, x = .int .i64 L ∧ goodL L ∧ w1 = wc)
      case first =>
        by_cases h2 : y % 8 = 2
        all_goals
          go_wp2_with fail
          go_meet
          refine ⟨_, rfl, ?_, rfl⟩
          unfold goodL
          omega
      case rest =>
        obtain ⟨L, rfl, gL, rfl⟩ := hcut
        have hL0 : 0 ≤ L := by unfold goodL at gL; omega
        have hL1 : L ≤ 7 := by unfold goodL at gL; omega
        have z20 : 0 ≤ z % 20 := by omega
        have z21 : z % 20 < 20 := by omega
        have S1 : St w w1 w0.heap.size chip0 chip0 := .of _ _ _ _ _ H1 chip0_ok chip0_ok (step_below b0 b1 (Nat.le_refl _)) b0.size
        clear H1 b0 b1
        have gL := gL
        cases e
        · go_wp2_with fail
          refine (out_st S1 0 17 (by decide)).mono ?_
          rintro r w2 ⟨rfl, S2⟩
          have S2 : St w w2 w0.heap.size (Chip.mk 0 0 0 0 0 false false 1 true true) chip0 := S2
          clear S1
          go_wp2_with fail
          refine (out_st S2 1 64 (by decide)).mono ?_
          rintro r w3 ⟨rfl, S3⟩
          have S3 : St w w3 w0.heap.size (Chip.mk 0 0 0 0 64 false false 2 true true) chip0 := S3
          clear S2
          go_wp2_with fail
          refine (out_st S3 1 4 (by decide)).mono ?_
          rintro r w4 ⟨rfl, S4⟩
          have S4 : St w w4 w0.heap.size (Chip.mk 0 0 0 0 64 false false 3 true true) chip0 := S4
          clear S3
          go_wp2_with fail
          refine (out_st S4 1 1 (by decide)).mono ?_
          rintro r w5 ⟨rfl, S5⟩
          have S5 : St w w5 w0.heap.size (s0 false) chip0 := S5
          clear S4
          go_wp2_with fail
          go_loopw [10, 12] (fun x i wr => ∃ k : Nat, (k : Int) ≤ 1 + z % 20 ∧ i = .int .i64 k ∧ x = .int .i64 (tol false k) ∧ St w wr w0.heap.size (stE false L k) chip0) (fun _ i _ => (1 + z % 20).toNat + 1 - (intOf i).toNat)
          case atStart => exact ⟨0, by omega, rfl, rfl, S5⟩
          case round =>
            obtain ⟨k, hk, rfl, rfl, S6⟩ := hrel
            by_cases hlt : (k : Int) < 1 + z % 20
            · by_cases k0 : k = 0
              · subst k0
                have e2 : tol false 0 = 0 := rfl
                rw [e2]
                clear e2
                have S6 : St w _ w0.heap.size (s0 false) chip0 := S6
                go_wp2_with fail
                refine (line_st S6 L true).mono ?_
                rintro r w7 ⟨rfl, S7⟩
                rw [fd gL] at S7
                go_wp2_with fail
                refine (pending_st S7).mono ?_
                rintro r w8 ⟨rfl, S8⟩
                have g1 : told0 (lnc (s0 false) L true) chip0 = true := f1 gL false
                rw [g1]
                clear g1
                go_wp2_with fail
                refine (ack_st S8).mono ?_
                rintro r w9 ⟨rfl, S9⟩
                rw [f3d gL false] at S9
                rw [f2 gL false]
                go_wp2_with fail
                refine (line_st S9 L false).mono ?_
                rintro r w10 ⟨rfl, S10⟩
                rw [fd gL, f3 gL false] at S10
                clear S9 S8 S7 S6
                go_wp2_with fail
                go_roundw
                case rel => exact ⟨1, by omega, by go_num, rfl, S10⟩
                case measure => (simp [intOf]) <;> omega
              · have e1 : stE false L k = s1 L := by unfold stE; rw [if_neg (by simp), if_neg k0]
                have e2 : tol false k = 1 := by unfold tol; rw [if_neg (by simp), if_neg k0]
                have e3 : stE false L (k + 1) = s1 L := by unfold stE; rw [if_neg (by simp), if_neg (by omega)]
                have e4 : tol false (k + 1) = 1 := by unfold tol; rw [if_neg (by simp), if_neg (by omega)]
                rw [e1] at S6
                rw [e2]
                have E3 := Lib.hid e3
                have E4 := Lib.hid e4
                clear e1 e2 e3 e4
                go_wp2_with fail
                refine (line_st S6 L true).mono ?_
                rintro r w7 ⟨rfl, S7⟩
                rw [fd gL] at S7
                go_wp2_with fail
                refine (pending_st S7).mono ?_
                rintro r w8 ⟨rfl, S8⟩
                have g1 : told0 (lnc (s1 L) L true) chip0 = false := f4 gL
                rw [g1]
                clear g1
                go_wp2_with fail
                refine (line_st S8 L false).mono ?_
                rintro r w10 ⟨rfl, S10⟩
                rw [fd gL, f5 gL] at S10
                clear S8 S7 S6
                go_wp2_with fail
                go_roundw
                case rel => exact ⟨k + 1, by omega, by go_num, by rw [E4.out], by rw [E3.out]; exact S10⟩
                case measure => (simp [intOf]) <;> omega
            · have k0 : k ≠ 0 := by omega
              have e1 : stE false L k = s1 L := by unfold stE; rw [if_neg (by simp), if_neg k0]
              have e2 : tol false k = 1 := by unfold tol; rw [if_neg (by simp), if_neg k0]
              rw [e1] at S6
              rw [e2]
              clear e1 e2
              go_wp2_with fail
              refine (line_st S6 L true).mono ?_
              rintro r w7 ⟨rfl, S7⟩
              rw [fd gL] at S7
              go_wp2_with fail
              refine (pending_st S7).mono ?_
              rintro r w8 ⟨rfl, S8⟩
              have g1 : told0 (lnc (s1 L) L true) chip0 = false := f4 gL
              rw [g1]
              clear g1
              go_wp2_with fail
              refine (out_st S8 0 32 (by decide)).mono ?_
              rintro r w9 ⟨rfl, S9⟩
              have S9 : St w w9 w0.heap.size (otc (lnc (s1 L) L true) 0 32) chip0 := S9
              clear S8 S7 S6
              go_wp2_with fail
              refine (pending_st S9).mono ?_
              rintro r w10 ⟨rfl, S10⟩
              have g1 : told0 (otc (lnc (s1 L) L true) 0 32) chip0 = true := f7 gL
              rw [g1]
              clear g1
              go_wp2_with fail
              go_returns
              exact ⟨rfl, S10.B⟩
        · go_wp2_with fail
          refine (out_st S1 0 17 (by decide)).mono ?_
          rintro r w2 ⟨rfl, S2⟩
          have S2 : St w w2 w0.heap.size (Chip.mk 0 0 0 0 0 false false 1 true true) chip0 := S2
          clear S1
          go_wp2_with fail
          refine (out_st S2 1 64 (by decide)).mono ?_
          rintro r w3 ⟨rfl, S3⟩
          have S3 : St w w3 w0.heap.size (Chip.mk 0 0 0 0 64 false false 2 true true) chip0 := S3
          clear S2
          go_wp2_with fail
          refine (out_st S3 1 4 (by decide)).mono ?_
          rintro r w4 ⟨rfl, S4⟩
          have S4 : St w w4 w0.heap.size (Chip.mk 0 0 0 0 64 false false 3 true true) chip0 := S4
          clear S3
          go_wp2_with fail
          refine (out_st S4 1 3 (by decide)).mono ?_
          rintro r w5 ⟨rfl, S5⟩
          have S5 : St w w5 w0.heap.size (s0 true) chip0 := S5
          clear S4
          go_wp2_with fail
          go_loopw [10, 12] (fun x i wr => ∃ k : Nat, (k : Int) ≤ 1 + z % 20 ∧ i = .int .i64 k ∧ x = .int .i64 (tol true k) ∧ St w wr w0.heap.size (stE true L k) chip0) (fun _ i _ => (1 + z % 20).toNat + 1 - (intOf i).toNat)
          case atStart => exact ⟨0, by omega, rfl, rfl, S5⟩
          case round =>
            obtain ⟨k, hk, rfl, rfl, S6⟩ := hrel
            have S6 : St w _ w0.heap.size (s0 true) chip0 := S6
            have e2 : tol true k = (k : Int) := rfl
            rw [e2]
            clear e2
            by_cases hlt : (k : Int) < 1 + z % 20
            ·
              go_wp2_with fail
              refine (line_st S6 L true).mono ?_
              rintro r w7 ⟨rfl, S7⟩
              rw [fd gL] at S7
              go_wp2_with fail
              refine (pending_st S7).mono ?_
              rintro r w8 ⟨rfl, S8⟩
              have g1 : told0 (lnc (s0 true) L true) chip0 = true := f1 gL true
              rw [g1]
              clear g1
              go_wp2_with fail
              refine (ack_st S8).mono ?_
              rintro r w9 ⟨rfl, S9⟩
              rw [f3d gL true] at S9
              rw [f2 gL true]
              go_wp2_with fail
              refine (line_st S9 L false).mono ?_
              rintro r w10 ⟨rfl, S10⟩
              rw [fd gL, f3 gL true] at S10
              clear S9 S8 S7 S6
              go_wp2_with fail
              go_roundw
              case rel => exact ⟨k + 1, by omega, by go_num, by show _ = Value.int .i64 ((k + 1 : Nat) : Int); go_num, S10⟩
              case measure => (simp [intOf]) <;> omega
            · have ek : ((k : Int) == 1 + z % 20) = true := by rw [beq_iff_eq]; omega
              go_wp2_with fail
              refine (pending_st S6).mono ?_
              rintro r w10 ⟨rfl, S10⟩
              have g1 : told0 (s0 true) chip0 = false := f6
              rw [g1]
              clear g1
              go_wp2_with fail
              go_returns
              exact ⟨rfl, S10.B⟩

set_option maxRecDepth 100000 in
theorem lifted (os : Os) (started : os.Started) (H : Type) (enc : TypeId × Value → H) :
    ReturnsInHanded {} Try.checked os 5 .any (Rows.picEndsSpec.pre6 enc Try.prog Try.f5 Rows.picEndsRow.domain false) (Rows.picEndsSpec.post enc Try.prog Try.f5 false true false false) := by
  refine returnsInHanded_of_change (C := Try.checked) own started (by kernel_rfl) Try.func5
    (ChangeSpec.witness6 (enc := enc) (C := Try.checked) false ⟨#[], #[.int .i64 0, .int .i64 0, .bool false], []⟩ 8 (by kernel_rfl) (by kernel_rfl) (by kernel_rfl) (by kernel_rfl)) ?_
  intro W base args ds gs before hval0 hW hcnd _
  have hval : ∀ (j : Nat) t v, Try.f5.params[j]? = some t → args[j]? = some v → Value.okWide Try.prog W .any base t v := hval0
  have hW' := hW
  obtain ⟨p, q, hA0, hV, rfl, hfz, hnd⟩ := hW
  have hA : DataW.TrodAll enc Try.prog W 0 (fun _ => true) true Try.f5.params.toList args.toList ds p := hA0
  rw [Try.params5] at hA hval
  obtain ⟨v0, vs0, d0, ds0, p0, q0, hargs, rfl, rfl, h0, r0⟩ := trodAll_cons hA
  obtain ⟨v1, vs1, d1, ds1, p1, q1, rfl, rfl, rfl, h1, r1⟩ := trodAll_cons r0
  obtain ⟨v2, vs2, d2, ds2, p2, q2, rfl, rfl, rfl, h2, r2⟩ := trodAll_cons r1
  obtain ⟨rfl, rfl, rfl⟩ := trodAll_nil r2
  obtain rfl : args = #[v0, v1, v2] := by cases args; simp_all
  clear hA0 hval0
  obtain ⟨a0, rfl, l0, u0⟩ := arg_int Try.underlying3 (hval 0 3 v0 rfl rfl)
  obtain ⟨a1, rfl, l1, u1⟩ := arg_int Try.underlying3 (hval 1 3 v1 rfl rfl)
  obtain ⟨a2, rfl⟩ := arg_bool Try.underlying4 (hval 2 4 v2 rfl rfl)
  exact law_end (by kernel_rfl) hW' rfl (by kernel_rfl) Try.underlying4 rfl rfl (walk a0 l0 u0 a1 l1 u1 a2 W)

theorem proved : Rows.PicEndsSaid :=
  OpenClaim.holds_of_wide 5 Try.f5 rfl rfl rfl rfl rfl rfl rfl ⟨rfl, rfl, rfl, rfl, rfl⟩ rfl rfl rfl rfl rfl (by kernel_rfl) Try.func5 (by kernel_rfl)
    (of_decide_eq_true (by kernel_rfl)) (by unfold Func.isWrapper; first | (rw [if_pos (by decide +kernel)]; kernel_rfl) | (rw [if_neg (by decide +kernel)]; exact ⟨rfl, rfl⟩))
    (fun os started H enc _ => lifted os started H enc)
#print axioms proved
end Go.Proofs.Ytfijohgbgadhiaa.picEnds
