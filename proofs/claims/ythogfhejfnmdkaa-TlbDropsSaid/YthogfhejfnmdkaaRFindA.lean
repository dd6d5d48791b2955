/- the document's Find: a bit of a word; marks. -/
import Derived.Test.YthogfhejfnmdkaaRefC
import Derived.Test.YthogfhejfnmdkaaFindZ
namespace Go.Proofs.Ythogfhejfnmdkaa
open Go.RowKit Go.MapKept
set_option linter.unusedVariables false

def bitIs (x i : Nat) : Bool := x / 2 ^ i % 2 == 1
set_option maxHeartbeats 1000000 in
theorem rhas_any (w : World) (x i : Nat) (hx : x < 4294967296) (hi : i = 0 ∨ i = 1 ∨ i = 2 ∨ i = 5 ∨ i = 6) :
    Calls Try.prog 32 #[.int .u32 x, .int .i64 i] w fun e w' => e = .returned (.bool (bitIs x i)) ∧ ∃ n, w' = w.drewN n := by
  have hb : ∀ m : Nat, (((x : Int) / (2 ^ m : Nat) % 2 == 1)) = bitIs x m := by
    intro m
    unfold bitIs
    rw [Bool.eq_iff_iff, beq_iff_eq, beq_iff_eq]
    omega
  have h0 : ((x : Int) % 2 == 1) = bitIs x 0 := by rw [← hb]; simp
  have h1 : ((x : Int) / 2 % 2 == 1) = bitIs x 1 := by rw [← hb]; simp
  have h2 : ((x : Int) / 4 % 2 == 1) = bitIs x 2 := by rw [← hb]; simp
  have h5 : ((x : Int) / 32 % 2 == 1) = bitIs x 5 := by rw [← hb]; simp
  have h6 : ((x : Int) / 64 % 2 == 1) = bitIs x 6 := by rw [← hb]; simp
  clear hb
  rcases hi with rfl | rfl | rfl | rfl | rfl
  all_goals
    go_enter Try.func32, Try.ntmps32
    go_wp2_with fail
    go_returns
    exact ⟨by simp [*], 0, rfl⟩
theorem rhas_v (w : World) (x i : Nat) (y : Int) (hy : y = (i : Int)) (hx : x < 4294967296) (hi : i = 0 ∨ i = 1 ∨ i = 2 ∨ i = 5 ∨ i = 6) :
    Calls Try.prog 32 #[.int .u32 x, .int .i64 y] w fun e w' => e = .returned (.bool (bitIs x i)) ∧ ∃ n, w' = w.drewN n := by
  rw [hy]; exact rhas_any w x i hx hi
theorem rhas_z (w : World) (x i : Nat) (z y : Int) (hz : z = (x : Int)) (hy : y = (i : Int)) (hx : x < 4294967296) (hi : i = 0 ∨ i = 1 ∨ i = 2 ∨ i = 5 ∨ i = 6) :
    Calls Try.prog 32 #[.int .u32 z, .int .i64 y] w fun e w' => e = .returned (.bool (bitIs x i)) ∧ ∃ n, w' = w.drewN n := by
  rw [hz, hy]; exact rhas_any w x i hx hi
theorem or_bit (k x : Nat) : x ||| 2 ^ k = if bitIs x k then x else x + 2 ^ k := by
  have hp : 0 < 2 ^ k := Nat.pow_pos (by decide)
  have h2 : 2 ^ (k + 1) = 2 * 2 ^ k := by rw [Nat.pow_succ, Nat.mul_comm]
  have e0 := Nat.div_add_mod x (2 ^ k)
  have e1 := Nat.div_add_mod (x / 2 ^ k) 2
  have hr : x % 2 ^ k < 2 ^ k := Nat.mod_lt _ hp
  have hq : x / 2 ^ k / 2 * 2 ^ (k + 1) = 2 ^ k * (2 * (x / 2 ^ k / 2)) := by rw [h2]; simp [Nat.mul_comm, Nat.mul_left_comm]
  have j1 : (x / 2 ^ k / 2 * 2 ^ (k + 1)) ||| 2 ^ k = x / 2 ^ k / 2 * 2 ^ (k + 1) + 2 ^ k := nat_join (k + 1) _ _ (Nat.mul_mod_left _ _) (by omega)
  have j2 : (x / 2 ^ k / 2 * 2 ^ (k + 1) + 2 ^ k) ||| (x % 2 ^ k) = x / 2 ^ k / 2 * 2 ^ (k + 1) + 2 ^ k + x % 2 ^ k := nat_join k _ _ (by rw [hq, ← Nat.mul_succ]; exact Nat.mul_mod_right _ _) hr
  have j3 : (x / 2 ^ k / 2 * 2 ^ (k + 1)) ||| (x % 2 ^ k) = x / 2 ^ k / 2 * 2 ^ (k + 1) + x % 2 ^ k := nat_join k _ _ (by rw [hq]; exact Nat.mul_mod_right _ _) hr
  unfold bitIs
  rcases Nat.mod_two_eq_zero_or_one (x / 2 ^ k) with h | h
  · have hx : x = x / 2 ^ k / 2 * 2 ^ (k + 1) + x % 2 ^ k := by
      rw [h, Nat.add_zero] at e1
      rw [hq, e1]; exact e0.symm
    rw [h, if_neg (by decide)]
    conv => lhs; rw [hx, ← j3, Nat.or_assoc, Nat.or_comm (x % 2 ^ k), ← Nat.or_assoc, j1, j2]
    omega
  · have hx : x = x / 2 ^ k / 2 * 2 ^ (k + 1) + 2 ^ k + x % 2 ^ k := by
      rw [h] at e1
      rw [hq, ← Nat.mul_succ, Nat.succ_eq_add_one, e1]; exact e0.symm
    rw [h, if_pos (by decide)]
    conv => lhs; rw [hx, ← j2, Nat.or_assoc, Nat.or_comm (x % 2 ^ k), ← Nat.or_assoc, ← j1, Nat.or_assoc _ (2 ^ k) (2 ^ k), Nat.or_self, j1, j2]
    exact hx.symm
theorem rwrite_4v {w : World} {b : Nat} {S : Nat → Prop} {R : RS} (H : Ref w b S R) (a v : Nat) (y : Int) (hy : y = (v : Int)) (ha : a < 4294967296) (hv : v < 4294967296) :
    Calls Try.prog 20 #[.pointer (some ⟨b, 0, .none⟩), .int .u32 a, .int .i64 4, .int .u32 y] w fun e w' => e = .returned (.int .i64 0) ∧ Ref w' b S (R.write a v 4) ∧ Keeps S w w' := by
  rw [hy]; exact rwrite_4 H a v ha hv
theorem or_96 (x : Nat) : x ||| 96 = (x ||| 2 ^ 5) ||| 2 ^ 6 := by rw [Nat.or_assoc]; rfl
theorem bit_room (k x : Nat) (hk : k < 32) (h : bitIs x k = false) (hx : x < 4294967296) : x + 2 ^ k < 4294967296 := by
  have e := or_bit k x
  rw [h, if_neg (by decide)] at e
  rw [← e]
  exact Nat.or_lt_two_pow (n := 32) hx (Nat.pow_lt_pow_right (by decide) hk)
set_option maxHeartbeats 4000000 in
theorem rmark_1 {w : World} {b : Nat} {S : Nat → Prop} {R : RS} (H : Ref w b S R) (a : Nat) (ha : a < 4294967296) (g : Nat) (T : TypeId) (hg : w.heap[g]? = some (.cells #[.int .i64 5] T)) :
    Calls Try.prog 33 #[.pointer (some ⟨b, 0, .none⟩), .int .u32 a, .slice (some ⟨g, 0, .none⟩) 1 1] w fun e w' => e = .returned (.tuple #[]) ∧ Ref w' b S (R.mark a 32) ∧ Keeps S w w' := by
  go_enter Try.func33, Try.ntmps33
  go_wp2_with fail
  refine (rread_4 H a ha).mono ?_
  rintro e w1 ⟨rfl, n1, rfl⟩
  have H1 := H.drewN n1
  have K1 : Keeps S w (w.drewN n1) := (Keeps.refl S w).drewN n1
  have k0 : (w.drewN n1).cell? ⟨g, 0, .none⟩ = some (.int .i64 5) := by rw [cell_at (show (w.drewN n1).heap[g]? = _ from hg)]; rfl
  have hx : R.read a 4 < 4294967296 := RS.read_lt H.isok _ 4
  have HM := Lib.hid (show R.mark a 32 = if R.read a 4 ||| 2 ^ 5 = R.read a 4 then R else R.write a (R.read a 4 ||| 2 ^ 5) 4 from rfl)
  generalize w.drewN n1 = w1 at *
  generalize R.read a 4 = x at *
  obtain ⟨y, hy, hy1, hy2⟩ : ∃ y, x ||| 2 ^ 5 = y ∧ y = (if bitIs x 5 then x else x + 32) ∧ y < 4294967296 := by
    refine ⟨_, rfl, or_bit 5 x, Nat.or_lt_two_pow (n := 32) hx (by decide)⟩
  rw [hy] at HM
  clear hy
  have HXY := Lib.hid (show bitIs x 5 = true → y = x from fun h => by rw [hy1, if_pos h])
  have HXN := Lib.hid (show bitIs x 5 = false → y = x + 32 from fun h => by rw [hy1, h]; rfl)
  clear hy1
  rcases hb : bitIs x 5 with _ | _
  · have hyx : y = x + 32 := Hid.out HXN hb
    have HB := Lib.hid hb
    clear hb HXY HXN
    go_wp2_with fail
    refine wp_loop_rounds 2 ?_
    rw [rounds_succ]
    go_wp2_with fail
    refine (rhas_v _ x 5 _ rfl (by omega) (by decide)).mono ?_
    rintro e w2 ⟨rfl, n2, rfl⟩
    rw [HB.out]
    have H2 := H1.drewN n2
    have K2 := K1.drewN n2
    replace k0 : (w1.drewN n2).cell? ⟨g, 0, .none⟩ = some (.int .i64 5) := k0
    generalize w1.drewN n2 = w2 at *
    go_wp2_with fail
    rw [rounds_succ]
    go_wp2_with fail
    refine (rwrite_4v H2 a y _ (by omega) ha (by omega)).mono ?_
    rintro e w9 ⟨rfl, H9, K9⟩
    go_wp2_with fail
    go_returns
    exact ⟨rfl, by rw [HM.out, if_neg (by omega)]; exact H9, K2.trans K9⟩
  · have hyx : y = x := Hid.out HXY hb
    have HB := Lib.hid hb
    clear hb HXY HXN
    go_wp2_with fail
    refine wp_loop_rounds 2 ?_
    rw [rounds_succ]
    go_wp2_with fail
    refine (rhas_v _ x 5 _ rfl (by omega) (by decide)).mono ?_
    rintro e w2 ⟨rfl, n2, rfl⟩
    rw [HB.out]
    have H2 := H1.drewN n2
    have K2 := K1.drewN n2
    replace k0 : (w1.drewN n2).cell? ⟨g, 0, .none⟩ = some (.int .i64 5) := k0
    generalize w1.drewN n2 = w2 at *
    go_wp2_with fail
    rw [rounds_succ]
    go_wp2_with fail
    go_returns
    exact ⟨rfl, by rw [HM.out, if_pos (by omega)]; exact H2, K2⟩
set_option maxHeartbeats 4000000 in
theorem rmark_2 {w : World} {b : Nat} {S : Nat → Prop} {R : RS} (H : Ref w b S R) (a : Nat) (ha : a < 4294967296) (g : Nat) (T : TypeId) (hg : w.heap[g]? = some (.cells #[.int .i64 5, .int .i64 6] T)) :
    Calls Try.prog 33 #[.pointer (some ⟨b, 0, .none⟩), .int .u32 a, .slice (some ⟨g, 0, .none⟩) 2 2] w fun e w' => e = .returned (.tuple #[]) ∧ Ref w' b S (R.mark a 96) ∧ Keeps S w w' := by
  go_enter Try.func33, Try.ntmps33
  go_wp2_with fail
  refine (rread_4 H a ha).mono ?_
  rintro e w1 ⟨rfl, n1, rfl⟩
  have H1 := H.drewN n1
  have K1 : Keeps S w (w.drewN n1) := (Keeps.refl S w).drewN n1
  have k0 : (w.drewN n1).cell? ⟨g, 0, .none⟩ = some (.int .i64 5) := by rw [cell_at (show (w.drewN n1).heap[g]? = _ from hg)]; rfl
  have k1 : (w.drewN n1).cell? ⟨g, 1, .none⟩ = some (.int .i64 6) := by rw [cell_at (show (w.drewN n1).heap[g]? = _ from hg)]; rfl
  have hx : R.read a 4 < 4294967296 := RS.read_lt H.isok _ 4
  have HM := Lib.hid (show R.mark a 96 = if R.read a 4 ||| 96 = R.read a 4 then R else R.write a (R.read a 4 ||| 96) 4 from rfl)
  generalize w.drewN n1 = w1 at *
  generalize R.read a 4 = x at *
  rw [or_96] at HM
  obtain ⟨y, hy, hy1, hy2⟩ : ∃ y, x ||| 2 ^ 5 = y ∧ y = (if bitIs x 5 then x else x + 32) ∧ y < 4294967296 := by
    refine ⟨_, rfl, or_bit 5 x, Nat.or_lt_two_pow (n := 32) hx (by decide)⟩
  rw [hy] at HM
  obtain ⟨z, hz, hz1, hz2⟩ : ∃ z, y ||| 2 ^ 6 = z ∧ z = (if bitIs y 6 then y else y + 64) ∧ z < 4294967296 := by
    refine ⟨_, rfl, or_bit 6 y, Nat.or_lt_two_pow (n := 32) hy2 (by decide)⟩
  rw [hz] at HM
  clear hz
  clear hy
  have HXY := Lib.hid (show bitIs x 5 = true → y = x from fun h => by rw [hy1, if_pos h])
  have HXN := Lib.hid (show bitIs x 5 = false → y = x + 32 from fun h => by rw [hy1, h]; rfl)
  clear hy1
  have HYZ := Lib.hid (show bitIs y 6 = true → z = y from fun h => by rw [hz1, if_pos h])
  have HYN := Lib.hid (show bitIs y 6 = false → z = y + 64 from fun h => by rw [hz1, h]; rfl)
  clear hz1
  rcases hb : bitIs x 5 with _ | _
  · have hyx : y = x + 32 := Hid.out HXN hb
    have HB := Lib.hid hb
    clear hb HXY HXN
    go_wp2_with fail
    refine wp_loop_rounds 3 ?_
    rw [rounds_succ]
    go_wp2_with fail
    refine (rhas_v _ x 5 _ rfl (by omega) (by decide)).mono ?_
    rintro e w2 ⟨rfl, n2, rfl⟩
    rw [HB.out]
    have H2 := H1.drewN n2
    have K2 := K1.drewN n2
    replace k0 : (w1.drewN n2).cell? ⟨g, 0, .none⟩ = some (.int .i64 5) := k0
    replace k1 : (w1.drewN n2).cell? ⟨g, 1, .none⟩ = some (.int .i64 6) := k1
    generalize w1.drewN n2 = w2 at *
    go_wp2_with fail
    rw [rounds_succ]
    go_wp2_with fail
    rcases hc : bitIs y 6 with _ | _
    · have hzy : z = y + 64 := Hid.out HYN hc
      have HC := Lib.hid hc
      clear hc HYZ HYN
      refine (rhas_z _ y 6 _ _ (by omega) rfl (by omega) (by decide)).mono ?_
      rintro e w3 ⟨rfl, n3, rfl⟩
      rw [HC.out]
      have H3 := H2.drewN n3
      have K3 := K2.drewN n3
      replace k0 : (w2.drewN n3).cell? ⟨g, 0, .none⟩ = some (.int .i64 5) := k0
      replace k1 : (w2.drewN n3).cell? ⟨g, 1, .none⟩ = some (.int .i64 6) := k1
      generalize w2.drewN n3 = w3 at *
      go_wp2_with fail
      rw [rounds_succ]
      go_wp2_with fail
      refine (rwrite_4v H3 a z _ (by omega) ha (by omega)).mono ?_
      rintro e w9 ⟨rfl, H9, K9⟩
      go_wp2_with fail
      go_returns
      exact ⟨rfl, by rw [HM.out, if_neg (by omega)]; exact H9, K3.trans K9⟩
    · have hzy : z = y := Hid.out HYZ hc
      have HC := Lib.hid hc
      clear hc HYZ HYN
      refine (rhas_z _ y 6 _ _ (by omega) rfl (by omega) (by decide)).mono ?_
      rintro e w3 ⟨rfl, n3, rfl⟩
      rw [HC.out]
      have H3 := H2.drewN n3
      have K3 := K2.drewN n3
      replace k0 : (w2.drewN n3).cell? ⟨g, 0, .none⟩ = some (.int .i64 5) := k0
      replace k1 : (w2.drewN n3).cell? ⟨g, 1, .none⟩ = some (.int .i64 6) := k1
      generalize w2.drewN n3 = w3 at *
      go_wp2_with fail
      rw [rounds_succ]
      go_wp2_with fail
      refine (rwrite_4v H3 a z _ (by omega) ha (by omega)).mono ?_
      rintro e w9 ⟨rfl, H9, K9⟩
      go_wp2_with fail
      go_returns
      exact ⟨rfl, by rw [HM.out, if_neg (by omega)]; exact H9, K3.trans K9⟩
  · have hyx : y = x := Hid.out HXY hb
    have HB := Lib.hid hb
    clear hb HXY HXN
    go_wp2_with fail
    refine wp_loop_rounds 3 ?_
    rw [rounds_succ]
    go_wp2_with fail
    refine (rhas_v _ x 5 _ rfl (by omega) (by decide)).mono ?_
    rintro e w2 ⟨rfl, n2, rfl⟩
    rw [HB.out]
    have H2 := H1.drewN n2
    have K2 := K1.drewN n2
    replace k0 : (w1.drewN n2).cell? ⟨g, 0, .none⟩ = some (.int .i64 5) := k0
    replace k1 : (w1.drewN n2).cell? ⟨g, 1, .none⟩ = some (.int .i64 6) := k1
    generalize w1.drewN n2 = w2 at *
    go_wp2_with fail
    rw [rounds_succ]
    go_wp2_with fail
    rcases hc : bitIs y 6 with _ | _
    · have hzy : z = y + 64 := Hid.out HYN hc
      have HC := Lib.hid hc
      clear hc HYZ HYN
      refine (rhas_z _ y 6 _ _ (by omega) rfl (by omega) (by decide)).mono ?_
      rintro e w3 ⟨rfl, n3, rfl⟩
      rw [HC.out]
      have H3 := H2.drewN n3
      have K3 := K2.drewN n3
      replace k0 : (w2.drewN n3).cell? ⟨g, 0, .none⟩ = some (.int .i64 5) := k0
      replace k1 : (w2.drewN n3).cell? ⟨g, 1, .none⟩ = some (.int .i64 6) := k1
      generalize w2.drewN n3 = w3 at *
      go_wp2_with fail
      rw [rounds_succ]
      go_wp2_with fail
      refine (rwrite_4v H3 a z _ (by omega) ha (by omega)).mono ?_
      rintro e w9 ⟨rfl, H9, K9⟩
      go_wp2_with fail
      go_returns
      exact ⟨rfl, by rw [HM.out, if_neg (by omega)]; exact H9, K3.trans K9⟩
    · have hzy : z = y := Hid.out HYZ hc
      have HC := Lib.hid hc
      clear hc HYZ HYN
      refine (rhas_z _ y 6 _ _ (by omega) rfl (by omega) (by decide)).mono ?_
      rintro e w3 ⟨rfl, n3, rfl⟩
      rw [HC.out]
      have H3 := H2.drewN n3
      have K3 := K2.drewN n3
      replace k0 : (w2.drewN n3).cell? ⟨g, 0, .none⟩ = some (.int .i64 5) := k0
      replace k1 : (w2.drewN n3).cell? ⟨g, 1, .none⟩ = some (.int .i64 6) := k1
      generalize w2.drewN n3 = w3 at *
      go_wp2_with fail
      rw [rounds_succ]
      go_wp2_with fail
      go_returns
      exact ⟨rfl, by rw [HM.out, if_pos (by omega)]; exact H3, K3⟩
end Go.Proofs.Ythogfhejfnmdkaa
