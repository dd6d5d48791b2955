/- 'drawloom/drawloomlaw05.RamBack' answers true for every input. Conditions: none. -/
import Derived.Test.YtfdeojefcfnogaaFrame
import Derived.Test.YtfdeojefcfnogaaRamL
namespace Go.Proofs.Ytfdeojefcfnogaa.ramBack
open Go.ChangeShapes Go.WideShapes Go.ChangeAt Go.RowKit
set_option linter.unusedVariables false

/-- A place that is low enough. -/
structure Under (t : Nat) : Prop where
  out : (t : Int) < 1048568
theorem byte_at (V k z : Nat) (hz : z = V / 256 ^ k % 256) : ((V : Int) / 2 ^ (8 * k)).tmod 256 = (z : Int) := by
  have e : ((V : Int) / 2 ^ (8 * k)) = ((V / 256 ^ k : Nat) : Int) := by
    rw [show (256 : Nat) ^ k = 2 ^ (8 * k) by rw [Nat.pow_mul]]
    simp
  rw [e, Int.tmod_eq_emod_of_nonneg (Int.natCast_nonneg _), hz]
  generalize V / 256 ^ k = y
  omega
theorem small_mod (V p x : Nat) (hx : x = V % p) (hp : 0 < p) (hp2 : p ≤ 4294967296) : (x : Int) < 4294967296 := by
  have := Nat.mod_lt V hp
  omega
set_option maxRecDepth 20000 in
set_option maxHeartbeats 4000000 in
theorem walk (a : Int) (a0 : 0 ≤ a) (a1 : a ≤ 4294967295) (s : Int) (s0 : -9223372036854775808 ≤ s) (s1 : s ≤ 9223372036854775807) (v : Int) (v0 : 0 ≤ v) (v1 : v ≤ 4294967295) (c : Bool) (w : World) :
    Calls Try.prog 4 #[.int .u32 a, .int .i64 s, .int .u32 v, .bool c] w fun e w' => e = .returned (.bool true) ∧ Below w.heap.size w w' := by
  obtain ⟨A, rfl⟩ := Int.eq_ofNat_of_zero_le a0
  obtain ⟨V, rfl⟩ := Int.eq_ofNat_of_zero_le v0
  have HV := Lib.hid (show V < 4294967296 by omega)
  by_cases hbad : s ≠ 1 ∧ s ≠ 2 ∧ s ≠ 4
  · obtain ⟨b1, b2, b4⟩ := hbad
    have g1 : (s != 1) = true := by simpa using b1
    have g2 : (s != 2) = true := by simpa using b2
    have g4 : (s != 4) = true := by simpa using b4
    have HW := Lib.hid (fun (w : World) (b : Nat) => write_bad (w := w) (b := b) (A : Int) s (V : Int) b1 b2 b4)
    clear b1 b2 b4 s0 s1
    go_enter Try.func4, Try.ntmps4
    go_wp2_with fail
    refine (awake_any _).mono ?_
    rintro e w1 ⟨rfl, B1⟩
    go_wp2_with fail
    refine (new_at w1 256 (by decide) (by decide)).mono ?_
    rintro e w2 ⟨b, rfl, A2⟩
    go_wp2_with fail
    refine (HW.out _ _).mono ?_
    rintro e w3 ⟨rfl, rfl⟩
    have HB := Lib.hid (B1.trans (A2.below.mono B1.size))
    go_wp2_with fail
    go_ret
    exact ⟨rfl, HB.out⟩
  · obtain ⟨S, rfl, hS⟩ : ∃ S : Nat, s = (S : Int) ∧ (S = 1 ∨ S = 2 ∨ S = 4) := ⟨s.toNat, by omega, by omega⟩
    obtain ⟨t, ht⟩ : ∃ t, t = A % 1048568 := ⟨_, rfl⟩
    have ht2 : (A : Int) % 1048568 = (t : Int) := by omega
    have t1 : (t : Int) < 1048568 := by omega
    have t2 : (0 : Int) ≤ t := by omega
    have HT2 := Lib.hid ht2
    have K0 := Bk.start c
    clear hbad s0 s1 ht ht2
    rcases hS with rfl | rfl | rfl
    · go_enter Try.func4, Try.ntmps4
      go_wp2_with fail
      refine (awake_any _).mono ?_
      rintro e w1 ⟨rfl, B1⟩
      go_wp2_with fail
      refine (new_at w1 256 (by decide) (by decide)).mono ?_
      rintro e w2 ⟨b, rfl, A2⟩
      go_wp2_with fail
      rw [HT2.out]
      refine (gate_at A2 (!c)).mono ?_
      rintro e w3 ⟨rfl, A3⟩
      go_wp2_with fail
      refine (write_at A3 t V (by omega) HV.out _ (by decide)).mono ?_
      rintro e w4 ⟨rfl, A4⟩
      go_wp2_with fail
      obtain ⟨K1, Y1⟩ := Bk.write K0 t V _ (by omega : t + 1 ≤ 1048576)
      obtain ⟨x, hx⟩ : ∃ x, x = V % 256 ^ 1 := ⟨_, rfl⟩
      have HB := Lib.hid (fun i (hi : i < 1) => show (((RS.new 256).gate (!c)).write t V 1).byte (t + i) = V / 256 ^ i % 256 by rw [Y1, if_pos (by omega), Nat.add_sub_cancel_left])
      have HX := Lib.hid (show (((RS.new 256).gate (!c)).write t V 1).read t 1 = x by rw [hx]; exact K1.read t V 1 (by omega) HB.out _ (Nat.le_refl _))
      clear Y1
      generalize ((RS.new 256).gate (!c)).write t V 1 = R4 at *
      refine (read_atv A4 t _ rfl (by omega) 1 (by decide) _ rfl x HX.out).mono ?_
      rintro e w5 ⟨rfl, A5⟩
      have hx1 : (0 : Int) ≤ (x : Int) := by omega
      have hx2 : (x : Int) < 4294967296 := small_mod V _ x hx (by decide) (by decide)
      have hne : ((x : Int) != (V : Int) % 256) = false := by simp; omega
      have T1 : Under t := ⟨t1⟩
      clear HT2 HV a0 a1
      have HK1 := Lib.hid K1
      clear hx t1 A4 K0 K1
      go_upto_if 81 with (fail)
      go_wp2_with fail
      clear hne
      go_loopw [14] (fun i wc => ∃ k : Nat, k ≤ 1 ∧ i = .int .i64 k ∧ RAt w1 wc b R4) (fun i _ => 1 - (intOf i).toNat)
      case atStart => exact ⟨0, by omega, rfl, A5⟩
      case round =>
        clear A5
        obtain ⟨k, hk, rfl, A⟩ := hrel
        by_cases hlt : k < 1
        · have k1 : (0 : Int) ≤ (k : Int) := by omega
          have k2 : (k : Int) < 1 := by omega
          have tk : (t : Int) + (k : Int) < 4294967296 := by have := T1.out; omega
          obtain ⟨z, hz⟩ : ∃ z, z = V / 256 ^ k % 256 := ⟨_, rfl⟩
          have HZ := Lib.hid (show R4.read (t + k) 1 = z by rw [HK1.out.read1 _ (by have := T1.out; omega), HB.out k hlt, hz])
          have z1 : (0 : Int) ≤ (z : Int) := by omega
          have z2 : (z : Int) < 256 := by have := Nat.mod_lt (V / 256 ^ k) (show 0 < 256 by decide); omega
          have hne : ((z : Int) != ((V : Int) / 2 ^ (8 * k)).tmod 256) = false := by rw [byte_at V k z hz]; simp
          clear hz
          go_wp2_with fail
          refine (read_atv A (t + k) _ (by omega) (by have := T1.out; omega) 1 (by decide) _ rfl z HZ.out).mono ?_
          rintro e w6 ⟨rfl, A6⟩
          clear A
          go_wp2_with fail
          go_roundw
          case rel => exact ⟨k + 1, by omega, by go_num, A6⟩
          case measure => (simp [intOf]) <;> omega
        · have k2 : (1 : Int) ≤ (k : Int) := by omega
          clear v0 v1 hx1 hx2
          cases c
          · go_wp2_with fail
            refine (read_atv A (t + 1048576) _ (by have := T1.out; omega) (by have := T1.out; omega) 1 (by decide) _ rfl _ rfl).mono ?_
            rintro e w6 ⟨rfl, A6⟩
            have HE := Lib.hid (B1.trans (A6.below.mono B1.size))
            go_wp2_with fail
            go_ret
            exact ⟨rfl, HE.out⟩
          · have HH := Lib.hid ((HK1.out.readHigh t 1 (by have := T1.out; omega)).trans HX.out)
            go_wp2_with fail
            refine (read_atv A (t + 1048576) _ (by have := T1.out; omega) (by have := T1.out; omega) 1 (by decide) _ rfl x HH.out).mono ?_
            rintro e w6 ⟨rfl, A6⟩
            have HE := Lib.hid (B1.trans (A6.below.mono B1.size))
            go_wp2_with fail
            go_ret
            exact ⟨rfl, HE.out⟩
    · go_enter Try.func4, Try.ntmps4
      go_wp2_with fail
      refine (awake_any _).mono ?_
      rintro e w1 ⟨rfl, B1⟩
      go_wp2_with fail
      refine (new_at w1 256 (by decide) (by decide)).mono ?_
      rintro e w2 ⟨b, rfl, A2⟩
      go_wp2_with fail
      rw [HT2.out]
      refine (gate_at A2 (!c)).mono ?_
      rintro e w3 ⟨rfl, A3⟩
      go_wp2_with fail
      refine (write_at A3 t V (by omega) HV.out _ (by decide)).mono ?_
      rintro e w4 ⟨rfl, A4⟩
      go_wp2_with fail
      obtain ⟨K1, Y1⟩ := Bk.write K0 t V _ (by omega : t + 2 ≤ 1048576)
      obtain ⟨x, hx⟩ : ∃ x, x = V % 256 ^ 2 := ⟨_, rfl⟩
      have HB := Lib.hid (fun i (hi : i < 2) => show (((RS.new 256).gate (!c)).write t V 2).byte (t + i) = V / 256 ^ i % 256 by rw [Y1, if_pos (by omega), Nat.add_sub_cancel_left])
      have HX := Lib.hid (show (((RS.new 256).gate (!c)).write t V 2).read t 2 = x by rw [hx]; exact K1.read t V 2 (by omega) HB.out _ (Nat.le_refl _))
      clear Y1
      generalize ((RS.new 256).gate (!c)).write t V 2 = R4 at *
      refine (read_atv A4 t _ rfl (by omega) 2 (by decide) _ rfl x HX.out).mono ?_
      rintro e w5 ⟨rfl, A5⟩
      have hx1 : (0 : Int) ≤ (x : Int) := by omega
      have hx2 : (x : Int) < 4294967296 := small_mod V _ x hx (by decide) (by decide)
      have hne : ((x : Int) != (V : Int) % 65536) = false := by simp; omega
      have T1 : Under t := ⟨t1⟩
      clear HT2 HV a0 a1
      have HK1 := Lib.hid K1
      clear hx t1 A4 K0 K1
      go_upto_if 81 with (fail)
      go_wp2_with fail
      clear hne
      go_loopw [14] (fun i wc => ∃ k : Nat, k ≤ 2 ∧ i = .int .i64 k ∧ RAt w1 wc b R4) (fun i _ => 2 - (intOf i).toNat)
      case atStart => exact ⟨0, by omega, rfl, A5⟩
      case round =>
        clear A5
        obtain ⟨k, hk, rfl, A⟩ := hrel
        by_cases hlt : k < 2
        · have k1 : (0 : Int) ≤ (k : Int) := by omega
          have k2 : (k : Int) < 2 := by omega
          have tk : (t : Int) + (k : Int) < 4294967296 := by have := T1.out; omega
          obtain ⟨z, hz⟩ : ∃ z, z = V / 256 ^ k % 256 := ⟨_, rfl⟩
          have HZ := Lib.hid (show R4.read (t + k) 1 = z by rw [HK1.out.read1 _ (by have := T1.out; omega), HB.out k hlt, hz])
          have z1 : (0 : Int) ≤ (z : Int) := by omega
          have z2 : (z : Int) < 256 := by have := Nat.mod_lt (V / 256 ^ k) (show 0 < 256 by decide); omega
          have hne : ((z : Int) != ((V : Int) / 2 ^ (8 * k)).tmod 256) = false := by rw [byte_at V k z hz]; simp
          clear hz
          go_wp2_with fail
          refine (read_atv A (t + k) _ (by omega) (by have := T1.out; omega) 1 (by decide) _ rfl z HZ.out).mono ?_
          rintro e w6 ⟨rfl, A6⟩
          clear A
          go_wp2_with fail
          go_roundw
          case rel => exact ⟨k + 1, by omega, by go_num, A6⟩
          case measure => (simp [intOf]) <;> omega
        · have k2 : (2 : Int) ≤ (k : Int) := by omega
          clear v0 v1 hx1 hx2
          cases c
          · go_wp2_with fail
            refine (read_atv A (t + 1048576) _ (by have := T1.out; omega) (by have := T1.out; omega) 2 (by decide) _ rfl _ rfl).mono ?_
            rintro e w6 ⟨rfl, A6⟩
            have HE := Lib.hid (B1.trans (A6.below.mono B1.size))
            go_wp2_with fail
            go_ret
            exact ⟨rfl, HE.out⟩
          · have HH := Lib.hid ((HK1.out.readHigh t 2 (by have := T1.out; omega)).trans HX.out)
            go_wp2_with fail
            refine (read_atv A (t + 1048576) _ (by have := T1.out; omega) (by have := T1.out; omega) 2 (by decide) _ rfl x HH.out).mono ?_
            rintro e w6 ⟨rfl, A6⟩
            have HE := Lib.hid (B1.trans (A6.below.mono B1.size))
            go_wp2_with fail
            go_ret
            exact ⟨rfl, HE.out⟩
    · go_enter Try.func4, Try.ntmps4
      go_wp2_with fail
      refine (awake_any _).mono ?_
      rintro e w1 ⟨rfl, B1⟩
      go_wp2_with fail
      refine (new_at w1 256 (by decide) (by decide)).mono ?_
      rintro e w2 ⟨b, rfl, A2⟩
      go_wp2_with fail
      rw [HT2.out]
      refine (gate_at A2 (!c)).mono ?_
      rintro e w3 ⟨rfl, A3⟩
      go_wp2_with fail
      refine (write_at A3 t V (by omega) HV.out _ (by decide)).mono ?_
      rintro e w4 ⟨rfl, A4⟩
      go_wp2_with fail
      obtain ⟨K1, Y1⟩ := Bk.write K0 t V _ (by omega : t + 4 ≤ 1048576)
      obtain ⟨x, hx⟩ : ∃ x, x = V % 256 ^ 4 := ⟨_, rfl⟩
      have HB := Lib.hid (fun i (hi : i < 4) => show (((RS.new 256).gate (!c)).write t V 4).byte (t + i) = V / 256 ^ i % 256 by rw [Y1, if_pos (by omega), Nat.add_sub_cancel_left])
      have HX := Lib.hid (show (((RS.new 256).gate (!c)).write t V 4).read t 4 = x by rw [hx]; exact K1.read t V 4 (by omega) HB.out _ (Nat.le_refl _))
      clear Y1
      generalize ((RS.new 256).gate (!c)).write t V 4 = R4 at *
      refine (read_atv A4 t _ rfl (by omega) 4 (by decide) _ rfl x HX.out).mono ?_
      rintro e w5 ⟨rfl, A5⟩
      have hx1 : (0 : Int) ≤ (x : Int) := by omega
      have hx2 : (x : Int) < 4294967296 := small_mod V _ x hx (by decide) (by decide)
      have hne : ((x : Int) != (V : Int) % 4294967296) = false := by simp; omega
      have T1 : Under t := ⟨t1⟩
      clear HT2 HV a0 a1
      have HK1 := Lib.hid K1
      clear hx t1 A4 K0 K1
      go_upto_if 81 with (fail)
      go_wp2_with fail
      clear hne
      go_loopw [14] (fun i wc => ∃ k : Nat, k ≤ 4 ∧ i = .int .i64 k ∧ RAt w1 wc b R4) (fun i _ => 4 - (intOf i).toNat)
      case atStart => exact ⟨0, by omega, rfl, A5⟩
      case round =>
        clear A5
        obtain ⟨k, hk, rfl, A⟩ := hrel
        by_cases hlt : k < 4
        · have k1 : (0 : Int) ≤ (k : Int) := by omega
          have k2 : (k : Int) < 4 := by omega
          have tk : (t : Int) + (k : Int) < 4294967296 := by have := T1.out; omega
          obtain ⟨z, hz⟩ : ∃ z, z = V / 256 ^ k % 256 := ⟨_, rfl⟩
          have HZ := Lib.hid (show R4.read (t + k) 1 = z by rw [HK1.out.read1 _ (by have := T1.out; omega), HB.out k hlt, hz])
          have z1 : (0 : Int) ≤ (z : Int) := by omega
          have z2 : (z : Int) < 256 := by have := Nat.mod_lt (V / 256 ^ k) (show 0 < 256 by decide); omega
          have hne : ((z : Int) != ((V : Int) / 2 ^ (8 * k)).tmod 256) = false := by rw [byte_at V k z hz]; simp
          clear hz
          go_wp2_with fail
          refine (read_atv A (t + k) _ (by omega) (by have := T1.out; omega) 1 (by decide) _ rfl z HZ.out).mono ?_
          rintro e w6 ⟨rfl, A6⟩
          clear A
          go_wp2_with fail
          go_roundw
          case rel => exact ⟨k + 1, by omega, by go_num, A6⟩
          case measure => (simp [intOf]) <;> omega
        · have k2 : (4 : Int) ≤ (k : Int) := by omega
          clear v0 v1 hx1 hx2
          cases c
          · go_wp2_with fail
            refine (read_atv A (t + 1048576) _ (by have := T1.out; omega) (by have := T1.out; omega) 4 (by decide) _ rfl _ rfl).mono ?_
            rintro e w6 ⟨rfl, A6⟩
            have HE := Lib.hid (B1.trans (A6.below.mono B1.size))
            go_wp2_with fail
            go_ret
            exact ⟨rfl, HE.out⟩
          · have HH := Lib.hid ((HK1.out.readHigh t 4 (by have := T1.out; omega)).trans HX.out)
            go_wp2_with fail
            refine (read_atv A (t + 1048576) _ (by have := T1.out; omega) (by have := T1.out; omega) 4 (by decide) _ rfl x HH.out).mono ?_
            rintro e w6 ⟨rfl, A6⟩
            have HE := Lib.hid (B1.trans (A6.below.mono B1.size))
            go_wp2_with fail
            go_ret
            exact ⟨rfl, HE.out⟩

set_option maxRecDepth 100000 in
theorem lifted (os : Os) (started : os.Started) (H : Type) (enc : TypeId × Value → H) :
    ReturnsInHanded {} Try.checked os 4 .any (Rows.ramBackSpec.pre6 enc Try.prog Try.f4 Rows.ramBackRow.domain false) (Rows.ramBackSpec.post enc Try.prog Try.f4 false true false false) := by
  refine returnsInHanded_of_change (C := Try.checked) own started (by kernel_rfl) Try.func4
    (ChangeSpec.witness6 (enc := enc) (C := Try.checked) false ⟨#[], #[.int .u32 0, .int .i64 0, .int .u32 0, .bool false], []⟩ 8 (by kernel_rfl) (by kernel_rfl) (by kernel_rfl) (by kernel_rfl)) ?_
  intro W base args ds gs before hval0 hW hcnd _
  have hval : ∀ (j : Nat) t v, Try.f4.params[j]? = some t → args[j]? = some v → Value.okWide Try.prog W .any base t v := hval0
  have hW' := hW
  obtain ⟨p, q, hA0, hV, rfl, hfz, hnd⟩ := hW
  have hA : DataW.TrodAll enc Try.prog W 0 (fun _ => true) true Try.f4.params.toList args.toList ds p := hA0
  rw [Try.params4] at hA hval
  obtain ⟨v0, vs0, d0, ds0, p0, q0, hargs, rfl, rfl, h0, r0⟩ := trodAll_cons hA
  obtain ⟨v1, vs1, d1, ds1, p1, q1, rfl, rfl, rfl, h1, r1⟩ := trodAll_cons r0
  obtain ⟨v2, vs2, d2, ds2, p2, q2, rfl, rfl, rfl, h2, r2⟩ := trodAll_cons r1
  obtain ⟨v3, vs3, d3, ds3, p3, q3, rfl, rfl, rfl, h3, r3⟩ := trodAll_cons r2
  obtain ⟨rfl, rfl, rfl⟩ := trodAll_nil r3
  obtain rfl : args = #[v0, v1, v2, v3] := by cases args; simp_all
  clear hA0 hval0
  obtain ⟨a0, rfl, l0, u0⟩ := arg_int Try.underlying23 (hval 0 23 v0 rfl rfl)
  obtain ⟨a1, rfl, l1, u1⟩ := arg_int Try.underlying3 (hval 1 3 v1 rfl rfl)
  obtain ⟨a2, rfl, l2, u2⟩ := arg_int Try.underlying23 (hval 2 23 v2 rfl rfl)
  obtain ⟨a3, rfl⟩ := arg_bool Try.underlying4 (hval 3 4 v3 rfl rfl)
  exact law_end (by kernel_rfl) hW' rfl (by kernel_rfl) Try.underlying4 rfl rfl (walk a0 l0 u0 a1 l1 u1 a2 l2 u2 a3 W)

theorem proved : Rows.RamBackSaid :=
  OpenClaim.holds_of_wide 4 Try.f4 rfl rfl rfl rfl rfl rfl rfl ⟨rfl, rfl, rfl, rfl, rfl⟩ rfl rfl rfl rfl rfl (by kernel_rfl) Try.func4 (by kernel_rfl)
    (of_decide_eq_true (by kernel_rfl)) (by unfold Func.isWrapper; first | (rw [if_pos (by decide +kernel)]; kernel_rfl) | (rw [if_neg (by decide +kernel)]; exact ⟨rfl, rfl⟩))
    (fun os started H enc _ => lifted os started H enc)
#print axioms proved
end Go.Proofs.Ytfdeojefcfnogaa.ramBack
