/- the document's memory: Read, Write, Rom, New. -/
import Derived.Test.YtfdeojefcfnogaaRefA
namespace Go.Proofs.Ytfdeojefcfnogaa
open Go.RowKit Go.MapKept
set_option linter.unusedVariables false

theorem add_shift (v b k : Nat) (hv : v < 256 ^ k) (hb : b < 256) (hk : k < 4) : ((b : Int) * 2 ^ (8 * k) % 4294967296) = ((b * 256 ^ k : Nat) : Int) ∧ v + b * 256 ^ k < 4294967296 := by
  have hp : (256 : Nat) ^ k = 2 ^ (8 * k) := by rw [Nat.pow_mul]
  have hle : b * 256 ^ k ≤ 255 * 256 ^ k := Nat.mul_le_mul_right _ (by omega)
  have h3 : 256 ^ k ≤ 256 ^ 3 := Nat.pow_le_pow_right (by decide) (by omega)
  refine ⟨?_, by omega⟩
  rw [hp]
  rw [hp] at hle h3
  rw [Int.emod_eq_of_lt]
  · simp
  · exact Int.mul_nonneg (by omega) (Int.pow_nonneg (by decide))
  · have : ((b : Int) * 2 ^ (8 * k)) = ((b * 2 ^ (8 * k) : Nat) : Int) := by simp
    rw [this]; omega

theorem shr_byte2 (v k : Nat) : ((v : Int) / 2 ^ (8 * k)).tmod 256 % 256 = ((v / 256 ^ k % 256 : Nat) : Int) := by
  rw [Int.tmod_eq_emod_of_nonneg (Int.ediv_nonneg (by omega) (Int.pow_nonneg (by decide))), Int.emod_emod_of_dvd _ (by decide), shr_byte]
set_option maxHeartbeats 1000000 in
theorem rread_1 {w : World} {b : Nat} {S : Nat → Prop} {R : RS} (H : Ref w b S R) (a : Nat) (ha : a < 4294967296) :
    Calls Try.prog 28 #[.pointer (some ⟨b, 0, .none⟩), .int .u32 a, .int .i64 1] w fun e w' => e = .returned (.tuple #[.int .u32 (R.read a 1 : Nat), .int .i64 0]) ∧ ∃ n, w' = w.drewN n := by
  go_enter Try.func28, Try.ntmps28
  go_wp2_with fail
  go_loopw [8, 9] (fun v i wr => ∃ k : Nat, k ≤ 1 ∧ i = .int .i64 k ∧ v = .int .u32 (R.read a k : Nat) ∧ ∃ n, wr = w.drewN n) (fun _ i _ => 1 - (intOf i).toNat)
  case atStart => exact ⟨0, by omega, rfl, rfl, 0, rfl⟩
  case round =>
    obtain ⟨k, hk, rfl, rfl, n, rfl⟩ := hrel
    by_cases hlt : k < 1
    · go_wp2_with fail
      refine (rbyte_anyv (H.drewN n) (at32 a k) _ (by unfold at32; omega) (at32_lt _ _)).mono ?_
      rintro e w1 ⟨rfl, n2, rfl⟩
      have hb := RS.get_lt H.isok (at32 a k)
      have hr := RS.read_lt H.isok a k
      have HR := Lib.hid (show R.read a (k + 1) = R.read a k + R.get (at32 a k) * 256 ^ k from rfl)
      have HO := Lib.hid (add_shift (R.read a k) (R.get (at32 a k)) k hr hb (by omega))
      generalize R.read a k = x at *
      generalize R.get (at32 a k) = y at *
      go_wp2_with fail
      go_roundw
      case rel =>
        refine ⟨k + 1, by omega, by go_num, ?_, _, rfl⟩
        rw [HR.out, HO.out.1]
        have := HO.out.2
        congr 1
        omega
      case measure => (simp [intOf]) <;> omega
    · have hk2 : k = 1 := by omega
      have HK := Lib.hid hk2
      clear hk2
      go_wp2_with fail
      go_ret2
      exact ⟨by rw [HK.out]; rfl, n, rfl⟩
set_option maxHeartbeats 1000000 in
theorem rread_2 {w : World} {b : Nat} {S : Nat → Prop} {R : RS} (H : Ref w b S R) (a : Nat) (ha : a < 4294967296) :
    Calls Try.prog 28 #[.pointer (some ⟨b, 0, .none⟩), .int .u32 a, .int .i64 2] w fun e w' => e = .returned (.tuple #[.int .u32 (R.read a 2 : Nat), .int .i64 0]) ∧ ∃ n, w' = w.drewN n := by
  go_enter Try.func28, Try.ntmps28
  go_wp2_with fail
  go_loopw [8, 9] (fun v i wr => ∃ k : Nat, k ≤ 2 ∧ i = .int .i64 k ∧ v = .int .u32 (R.read a k : Nat) ∧ ∃ n, wr = w.drewN n) (fun _ i _ => 2 - (intOf i).toNat)
  case atStart => exact ⟨0, by omega, rfl, rfl, 0, rfl⟩
  case round =>
    obtain ⟨k, hk, rfl, rfl, n, rfl⟩ := hrel
    by_cases hlt : k < 2
    · go_wp2_with fail
      refine (rbyte_anyv (H.drewN n) (at32 a k) _ (by unfold at32; omega) (at32_lt _ _)).mono ?_
      rintro e w1 ⟨rfl, n2, rfl⟩
      have hb := RS.get_lt H.isok (at32 a k)
      have hr := RS.read_lt H.isok a k
      have HR := Lib.hid (show R.read a (k + 1) = R.read a k + R.get (at32 a k) * 256 ^ k from rfl)
      have HO := Lib.hid (add_shift (R.read a k) (R.get (at32 a k)) k hr hb (by omega))
      generalize R.read a k = x at *
      generalize R.get (at32 a k) = y at *
      go_wp2_with fail
      go_roundw
      case rel =>
        refine ⟨k + 1, by omega, by go_num, ?_, _, rfl⟩
        rw [HR.out, HO.out.1]
        have := HO.out.2
        congr 1
        omega
      case measure => (simp [intOf]) <;> omega
    · have hk2 : k = 2 := by omega
      have HK := Lib.hid hk2
      clear hk2
      go_wp2_with fail
      go_ret2
      exact ⟨by rw [HK.out]; rfl, n, rfl⟩
set_option maxHeartbeats 1000000 in
theorem rread_4 {w : World} {b : Nat} {S : Nat → Prop} {R : RS} (H : Ref w b S R) (a : Nat) (ha : a < 4294967296) :
    Calls Try.prog 28 #[.pointer (some ⟨b, 0, .none⟩), .int .u32 a, .int .i64 4] w fun e w' => e = .returned (.tuple #[.int .u32 (R.read a 4 : Nat), .int .i64 0]) ∧ ∃ n, w' = w.drewN n := by
  go_enter Try.func28, Try.ntmps28
  go_wp2_with fail
  go_loopw [8, 9] (fun v i wr => ∃ k : Nat, k ≤ 4 ∧ i = .int .i64 k ∧ v = .int .u32 (R.read a k : Nat) ∧ ∃ n, wr = w.drewN n) (fun _ i _ => 4 - (intOf i).toNat)
  case atStart => exact ⟨0, by omega, rfl, rfl, 0, rfl⟩
  case round =>
    obtain ⟨k, hk, rfl, rfl, n, rfl⟩ := hrel
    by_cases hlt : k < 4
    · go_wp2_with fail
      refine (rbyte_anyv (H.drewN n) (at32 a k) _ (by unfold at32; omega) (at32_lt _ _)).mono ?_
      rintro e w1 ⟨rfl, n2, rfl⟩
      have hb := RS.get_lt H.isok (at32 a k)
      have hr := RS.read_lt H.isok a k
      have HR := Lib.hid (show R.read a (k + 1) = R.read a k + R.get (at32 a k) * 256 ^ k from rfl)
      have HO := Lib.hid (add_shift (R.read a k) (R.get (at32 a k)) k hr hb (by omega))
      generalize R.read a k = x at *
      generalize R.get (at32 a k) = y at *
      go_wp2_with fail
      go_roundw
      case rel =>
        refine ⟨k + 1, by omega, by go_num, ?_, _, rfl⟩
        rw [HR.out, HO.out.1]
        have := HO.out.2
        congr 1
        omega
      case measure => (simp [intOf]) <;> omega
    · have hk2 : k = 4 := by omega
      have HK := Lib.hid hk2
      clear hk2
      go_wp2_with fail
      go_ret2
      exact ⟨by rw [HK.out]; rfl, n, rfl⟩
set_option maxHeartbeats 1000000 in
theorem rwrite_1 {w : World} {b : Nat} {S : Nat → Prop} {R : RS} (H : Ref w b S R) (a v : Nat) (ha : a < 4294967296) (hv : v < 4294967296) :
    Calls Try.prog 29 #[.pointer (some ⟨b, 0, .none⟩), .int .u32 a, .int .i64 1, .int .u32 v] w fun e w' => e = .returned (.int .i64 0) ∧ Ref w' b S (R.write a v 1) ∧ Keeps S w w' := by
  go_enter Try.func29, Try.ntmps29
  go_wp2_with fail
  go_loopw [9] (fun i wr => ∃ k : Nat, k ≤ 1 ∧ i = .int .i64 k ∧ Ref wr b S (R.write a v k) ∧ Keeps S w wr) (fun i _ => 1 - (intOf i).toNat)
  case atStart => exact ⟨0, by omega, rfl, H, Keeps.refl S w⟩
  case round =>
    obtain ⟨k, hk, rfl, H', K'⟩ := hrel
    by_cases hlt : k < 1
    · have HB := Lib.hid (shr_byte2 v k)
      have HW := Lib.hid (show R.write a v (k + 1) = (R.write a v k).rput (at32 a k) (v / 256 ^ k % 256) false from rfl)
      go_wp2_with fail
      refine (rput_any H' (at32 a k) (v / 256 ^ k % 256) (at32_lt _ _) (Nat.mod_lt _ (by decide)) false _ _ (by unfold at32; omega) (by rw [← HB.out])).mono ?_
      rintro e w1 ⟨rfl, H1, K1⟩
      rw [← HW.out] at H1
      have K2 := K'.trans K1
      clear H' K' K1
      go_wp2_with fail
      go_roundw
      case rel => exact ⟨k + 1, by omega, by go_num, H1, K2⟩
      case measure => (simp [intOf]) <;> omega
    · have hk2 : k = 1 := by omega
      have HK := Lib.hid hk2
      clear hk2
      go_wp2_with fail
      go_returns
      exact ⟨rfl, by rw [← HK.out]; exact H', K'⟩
set_option maxHeartbeats 1000000 in
theorem rwrite_2 {w : World} {b : Nat} {S : Nat → Prop} {R : RS} (H : Ref w b S R) (a v : Nat) (ha : a < 4294967296) (hv : v < 4294967296) :
    Calls Try.prog 29 #[.pointer (some ⟨b, 0, .none⟩), .int .u32 a, .int .i64 2, .int .u32 v] w fun e w' => e = .returned (.int .i64 0) ∧ Ref w' b S (R.write a v 2) ∧ Keeps S w w' := by
  go_enter Try.func29, Try.ntmps29
  go_wp2_with fail
  go_loopw [9] (fun i wr => ∃ k : Nat, k ≤ 2 ∧ i = .int .i64 k ∧ Ref wr b S (R.write a v k) ∧ Keeps S w wr) (fun i _ => 2 - (intOf i).toNat)
  case atStart => exact ⟨0, by omega, rfl, H, Keeps.refl S w⟩
  case round =>
    obtain ⟨k, hk, rfl, H', K'⟩ := hrel
    by_cases hlt : k < 2
    · have HB := Lib.hid (shr_byte2 v k)
      have HW := Lib.hid (show R.write a v (k + 1) = (R.write a v k).rput (at32 a k) (v / 256 ^ k % 256) false from rfl)
      go_wp2_with fail
      refine (rput_any H' (at32 a k) (v / 256 ^ k % 256) (at32_lt _ _) (Nat.mod_lt _ (by decide)) false _ _ (by unfold at32; omega) (by rw [← HB.out])).mono ?_
      rintro e w1 ⟨rfl, H1, K1⟩
      rw [← HW.out] at H1
      have K2 := K'.trans K1
      clear H' K' K1
      go_wp2_with fail
      go_roundw
      case rel => exact ⟨k + 1, by omega, by go_num, H1, K2⟩
      case measure => (simp [intOf]) <;> omega
    · have hk2 : k = 2 := by omega
      have HK := Lib.hid hk2
      clear hk2
      go_wp2_with fail
      go_returns
      exact ⟨rfl, by rw [← HK.out]; exact H', K'⟩
set_option maxHeartbeats 1000000 in
theorem rwrite_4 {w : World} {b : Nat} {S : Nat → Prop} {R : RS} (H : Ref w b S R) (a v : Nat) (ha : a < 4294967296) (hv : v < 4294967296) :
    Calls Try.prog 29 #[.pointer (some ⟨b, 0, .none⟩), .int .u32 a, .int .i64 4, .int .u32 v] w fun e w' => e = .returned (.int .i64 0) ∧ Ref w' b S (R.write a v 4) ∧ Keeps S w w' := by
  go_enter Try.func29, Try.ntmps29
  go_wp2_with fail
  go_loopw [9] (fun i wr => ∃ k : Nat, k ≤ 4 ∧ i = .int .i64 k ∧ Ref wr b S (R.write a v k) ∧ Keeps S w wr) (fun i _ => 4 - (intOf i).toNat)
  case atStart => exact ⟨0, by omega, rfl, H, Keeps.refl S w⟩
  case round =>
    obtain ⟨k, hk, rfl, H', K'⟩ := hrel
    by_cases hlt : k < 4
    · have HB := Lib.hid (shr_byte2 v k)
      have HW := Lib.hid (show R.write a v (k + 1) = (R.write a v k).rput (at32 a k) (v / 256 ^ k % 256) false from rfl)
      go_wp2_with fail
      refine (rput_any H' (at32 a k) (v / 256 ^ k % 256) (at32_lt _ _) (Nat.mod_lt _ (by decide)) false _ _ (by unfold at32; omega) (by rw [← HB.out])).mono ?_
      rintro e w1 ⟨rfl, H1, K1⟩
      rw [← HW.out] at H1
      have K2 := K'.trans K1
      clear H' K' K1
      go_wp2_with fail
      go_roundw
      case rel => exact ⟨k + 1, by omega, by go_num, H1, K2⟩
      case measure => (simp [intOf]) <;> omega
    · have hk2 : k = 4 := by omega
      have HK := Lib.hid hk2
      clear hk2
      go_wp2_with fail
      go_returns
      exact ⟨rfl, by rw [← HK.out]; exact H', K'⟩
theorem rread_any {w : World} {b : Nat} {S : Nat → Prop} {R : RS} (H : Ref w b S R) (a : Nat) (ha : a < 4294967296) (s : Nat) (hs : s = 1 ∨ s = 2 ∨ s = 4) :
    Calls Try.prog 28 #[.pointer (some ⟨b, 0, .none⟩), .int .u32 a, .int .i64 (s : Nat)] w fun e w' => e = .returned (.tuple #[.int .u32 (R.read a s : Nat), .int .i64 0]) ∧ ∃ n, w' = w.drewN n := by
  rcases hs with rfl | rfl | rfl
  · exact rread_1 H a ha
  · exact rread_2 H a ha
  · exact rread_4 H a ha
theorem rwrite_any {w : World} {b : Nat} {S : Nat → Prop} {R : RS} (H : Ref w b S R) (a v : Nat) (ha : a < 4294967296) (hv : v < 4294967296) (s : Nat) (hs : s = 1 ∨ s = 2 ∨ s = 4) :
    Calls Try.prog 29 #[.pointer (some ⟨b, 0, .none⟩), .int .u32 a, .int .i64 (s : Nat), .int .u32 v] w fun e w' => e = .returned (.int .i64 0) ∧ Ref w' b S (R.write a v s) ∧ Keeps S w w' := by
  rcases hs with rfl | rfl | rfl
  · exact rwrite_1 H a v ha hv
  · exact rwrite_2 H a v ha hv
  · exact rwrite_4 H a v ha hv
set_option maxHeartbeats 1000000 in
theorem rread_bad {w : World} {b : Nat} (a s : Int) (h1 : s ≠ 1) (h2 : s ≠ 2) (h4 : s ≠ 4) :
    Calls Try.prog 28 #[.pointer (some ⟨b, 0, .none⟩), .int .u32 a, .int .i64 s] w fun e w' => e = .returned (.tuple #[.int .u32 0, .int .i64 2]) ∧ w = w' := by
  have g1 : (s != 1) = true := by simpa using h1
  have g2 : (s != 2) = true := by simpa using h2
  have g4 : (s != 4) = true := by simpa using h4
  go_enter Try.func28, Try.ntmps28
  go_wp2_with fail
  go_ret2
  exact ⟨rfl, rfl⟩
set_option maxHeartbeats 1000000 in
theorem rwrite_bad {w : World} {b : Nat} (a s v : Int) (h1 : s ≠ 1) (h2 : s ≠ 2) (h4 : s ≠ 4) :
    Calls Try.prog 29 #[.pointer (some ⟨b, 0, .none⟩), .int .u32 a, .int .i64 s, .int .u32 v] w fun e w' => e = .returned (.int .i64 2) ∧ w = w' := by
  have g1 : (s != 1) = true := by simpa using h1
  have g2 : (s != 2) = true := by simpa using h2
  have g4 : (s != 4) = true := by simpa using h4
  go_enter Try.func29, Try.ntmps29
  go_wp2_with fail
  go_returns
  exact ⟨rfl, rfl⟩
set_option maxHeartbeats 1000000 in
theorem rrom_any {w : World} {b : Nat} {S : Nat → Prop} {R : RS} (H : Ref w b S R) (n : Int) (x : Bool) :
    Calls Try.prog 30 #[.pointer (some ⟨b, 0, .none⟩), .int .i64 n, .bool x] w fun e w' => e = .returned (.int .i64 (romErr R n)) ∧ Ref w' b S (R.romAt n x) ∧ Keeps S w w' := by
  obtain ⟨g0, g1, g2, g3, I, hS⟩ := H
  obtain ⟨-, k1, -, -, -⟩ := I.facts
  have h256 := I.ok.p2
  by_cases h : 0 ≤ n ∧ n < R.pages
  · obtain ⟨m, rfl⟩ := Int.eq_ofNat_of_zero_le h.1
    have hm : m < R.pages := by omega
    have e : romGood R (m : Int) = true := by unfold romGood; simp; omega
    have hc : w.cell? ⟨g1, m, .none⟩ = some (.bool (R.only m)) := by rw [cell_at I.r1, boolCells_at _ _ _ hm]
    have f1 : ∀ k, w.frozen? ⟨g1, k, .none⟩ = false := fun k => free_at I.r1
    have I1 := I.set1 m x hm
    have K1 : Keeps S w (w.setCell ⟨g1, m, .none⟩ (.bool x)) := (Keeps.refl S w).setCell (.inl ((hS g1).2 (.inr (.inr (.inl rfl))))) _
    unfold romErr RS.romAt
    rw [e]
    clear e
    go_enter Try.func30, Try.ntmps30
    go_wp2_with fail
    go_returns
    exact ⟨rfl, ⟨g0, g1, g2, g3, I1, hS⟩, K1⟩
  · have e : romGood R n = false := by unfold romGood; simp; omega
    unfold romErr RS.romAt
    rw [e]
    clear e
    by_cases h0 : n < 0
    all_goals
      go_enter Try.func30, Try.ntmps30
      go_wp2_with fail
      go_returns
      exact ⟨rfl, ⟨g0, g1, g2, g3, I, hS⟩, Keeps.refl _ _⟩
end Go.Proofs.Ytfdeojefcfnogaa
