/- ide: Out. -/
import Derived.Test.YtebhnfoehgpilaaIdeI
namespace Go.Proofs.Ytebhnfoehgpilaa
open Go.RowKit
set_option linter.unusedVariables false

/-- The first k bytes of a value are written, as long as this drive is meant. -/
def Dk.puts (S : Dk) (v : Nat) : Nat → Dk
  | 0 => S
  | k + 1 => if (S.puts v k).other then S.puts v k else (S.puts v k).putB (v / 256 ^ k % 256)
theorem Dk.puts_go (S : Dk) (v k : Nat) (h : (S.puts v k).other = false) : S.puts v (k + 1) = (S.puts v k).putB (v / 256 ^ k % 256) := by
  rw [Dk.puts, h]; rfl
theorem Dk.puts_stay (S : Dk) (v k : Nat) (h : (S.puts v k).other = true) (m : Nat) : S.puts v (k + m) = S.puts v k := by
  induction m with
  | zero => rfl
  | succ m ih => rw [show k + (m + 1) = (k + m) + 1 from rfl, Dk.puts, ih, h]; rfl
theorem step_log (S : Dk) : S.step.log = S.log := rfl
theorem begin_log (S : Dk) (m : Nat) : (S.begin m).log = S.log := by
  unfold Dk.begin
  split
  · split <;> rfl
  · rfl
theorem next_log (S : Dk) : S.next.log = S.log := by
  unfold Dk.next
  split
  · rfl
  · rw [begin_log, step_log]
theorem logAt_log (S : Dk) (p : Nat) : (S.logAt p).log = S.log ++ [p] := rfl
theorem write_log (S : Dk) : S.write.log = S.log ++ [S.place] := by unfold Dk.write; rw [logAt_log, Dk.flushAt_log]
theorem mark_log (S : Dk) (x : Bool) : ({ S with mark := x } : Dk).log = S.log := rfl
theorem fail_log (S : Dk) (e : Nat) : (S.fail e).log = S.log := rfl
theorem putB_log (S : Dk) (b : Nat) : (S.putB b).log.length ≤ S.log.length + 1 := by
  unfold Dk.putB
  split
  · split
    · rw [Dk.put1_log]; omega
    · split
      · rw [mark_log, next_log, write_log, List.length_append, Dk.put1_log]; exact Nat.le_refl _
      · rw [fail_log, Dk.put1_log]; omega
  · omega
theorem puts_log (S : Dk) (v k : Nat) : (S.puts v k).log.length ≤ S.log.length + k := by
  induction k with
  | zero => exact Nat.le_refl _
  | succ k ih =>
    rw [Dk.puts]
    split
    · omega
    · have := putB_log (S.puts v k) (v / 256 ^ k % 256); omega
theorem room_puts {S : Dk} (h : S.room) (v k : Nat) : (S.puts v k).room := by
  induction k with
  | zero => exact h
  | succ k ih =>
    rw [Dk.puts]
    split
    · exact ih
    · exact room_put ih _
/-- A disk behind puts: its blocks. -/
def Went (w : World) (b : Nat) (ds lv : Value) (D : Dk) (wr : World) : Prop :=
  ∃ lv', IdeIn 56 wr b ds lv' D ∧ Keeps (Held b ds lv) w wr ∧ ∀ k, lv'.ownBlock = some k → lv.ownBlock = some k ∨ w.heap.size ≤ k
theorem Went.next {w wr w1 : World} {b : Nat} {ds lv lv1 : Value} {D1 : Dk} (K : Keeps (Held b ds lv) w wr) (N : ∀ k, lv1.ownBlock = some k → lv.ownBlock = some k ∨ w.heap.size ≤ k) (h : Went wr b ds lv1 D1 w1) : Went w b ds lv D1 w1 := by
  obtain ⟨lv2, H, K2, N2⟩ := h
  refine ⟨lv2, H, K.andThen K2 fun i hi hs => ?_, fun k hk => ?_⟩
  · rcases hs with h | h | h
    · exact Or.inl h
    · exact Or.inr (Or.inl h)
    · rcases N i h with h | h
      · exact Or.inr (Or.inr h)
      · omega
  · rcases N2 k hk with h | h
    · exact N k h
    · exact .inr (Nat.le_trans K.size h)
theorem Went.drewN {w wr : World} {b : Nat} {ds lv : Value} {D : Dk} (h : Went w b ds lv D wr) (n : Nat) : Went w b ds lv D (wr.drewN n) := by
  obtain ⟨lv1, H, K, N⟩ := h
  exact ⟨lv1, H.drewN n, K.drewN n, N⟩
theorem Went.of {w wr : World} {b : Nat} {ds lv : Value} {D : Dk} (H : IdeIn 56 wr b ds lv D) (K : Keeps (· = b) w wr) : Went w b ds lv D wr := ⟨lv, H, K.mono fun k _ h => Or.inl h, fun k h => .inl h⟩
section
variable {w : World} {b : Nat} {ds lv : Value} {D : Dk}
theorem out_err (reg size v : Int) (x : Int) (he : callErr reg size = x) (hx : (x != 0) = true) :
    Calls Try.prog 12 #[.pointer (some ⟨b, 0, none⟩), .int .i64 reg, .int .i64 size, .int .u32 v] w fun e w' => e = .returned (.int .i64 x) ∧ w = w' := by
  have HC := Lib.hid (check_in (w := w) (b := b) reg size)
  have HE := Lib.hid he
  clear he
  go_enter Try.func12, Try.ntmps12
  go_wp2_with fail
  refine HC.out.mono ?_
  rintro e w1 ⟨rfl, rfl⟩
  rw [HE.out]
  go_wp2_with fail
  go_returns
  exact ⟨rfl, rfl⟩
theorem out_nil (reg size v : Int) (w : World) :
    Calls Try.prog 12 #[.pointer none, .int .i64 reg, .int .i64 size, .int .u32 v] w fun e w' => e = .returned (.int .i64 1) ∧ w = w' := by
  go_enter Try.func12, Try.ntmps12
  go_wp2_with fail
  refine (check_nil _ reg size).mono ?_
  rintro e w1 ⟨rfl, rfl⟩
  go_wp2_with fail
  go_returns
  exact ⟨rfl, rfl⟩
set_option maxHeartbeats 2000000 in
theorem out_0 (H : IdeIn 56 w b ds lv D) (hr : D.room) (s v : Nat) (hs : s = 1 ∨ s = 2 ∨ s = 4) (hv : v < 4294967296) (hL : D.log.length + 4 < 17592186044416) :
    Calls Try.prog 12 #[.pointer (some ⟨b, 0, none⟩), .int .i64 0, .int .i64 (s : Nat), .int .u32 v] w fun e w' => e = .returned (.int .i64 0) ∧ Went w b ds lv (D.puts v s) w' := by
  have he : callErr 0 (s : Int) = 0 := by unfold callErr; rcases hs with rfl | rfl | rfl <;> rfl
  have HC := Lib.hid (check_in (w := w) (b := b) 0 (s : Int))
  have HE := Lib.hid he
  have hs4 : s ≤ 4 := by omega
  have HS := Lib.hid hs
  have HL := Lib.hid hL
  have HH := Lib.hid H
  have HR := Lib.hid hr
  clear he hs hL H hr
  go_enter Try.func12, Try.ntmps12
  go_wp2_with fail
  refine HC.out.mono ?_
  rintro e w1 ⟨rfl, rfl⟩
  rw [HE.out]
  go_wp2_with fail
  go_loopw [10] (fun i wr => ∃ k : Nat, k ≤ s ∧ i = .int .i64 k ∧ Went w b ds lv (D.puts v k) wr) (fun i _ => s - (intOf i).toNat)
  case atStart => exact ⟨0, by omega, rfl, .of HH.out (Keeps.refl _ _)⟩
  case round =>
    obtain ⟨k, hk, rfl, lv1, H1, K1, N1⟩ := hrel
    have HH1 := Lib.hid H1
    have HK1 := Lib.hid K1
    have HN1 := Lib.hid N1
    clear H1 K1 N1
    by_cases hlt : k < s
    · cases ho : (D.puts v k).other
      · have HO := Lib.hid ho
        clear ho
        have q2 : (0 : Int) ≤ 8 * (k : Int) := by omega
        have q3 : (8 : Int) * (k : Int) ≤ 32 := by omega
        go_wp2_with fail
        refine (other_in HH1.out).mono ?_
        rintro e w2 ⟨rfl, rfl⟩
        rw [HO.out]
        go_wp2_with fail
        rw [shr_nat v k]
        refine (put_in HH1.out (room_puts HR.out v k) (v / 256 ^ k % 256) (Nat.mod_lt _ (by decide)) (by have := puts_log D v k; have := HL.out; omega)).mono ?_
        rintro e w2 ⟨rfl, lv2, H2, K2, N2⟩
        have G := Went.next HK1.out HN1.out (⟨lv2, H2, K2, N2⟩ : Went _ b ds lv1 _ w2)
        rw [← Dk.puts_go D v k HO.out] at G
        have HG := Lib.hid G
        clear H2 K2 N2 G
        go_wp2_with fail
        go_roundw
        case rel => exact ⟨k + 1, by omega, by go_num, HG.out⟩
        case measure => (simp [intOf]) <;> omega
      · have HO := Lib.hid ho
        clear ho
        go_wp2_with fail
        refine (other_in HH1.out).mono ?_
        rintro e w2 ⟨rfl, rfl⟩
        rw [HO.out]
        go_wp2_with fail
        go_returns
        have e := Dk.puts_stay D v k HO.out (s - k)
        rw [show k + (s - k) = s by omega] at e
        exact ⟨rfl, by rw [e]; exact ⟨lv1, HH1.out, HK1.out, HN1.out⟩⟩
    · have hk2 : k = s := by omega
      have HK2 := Lib.hid hk2
      clear hk2
      go_wp2_with fail
      go_returns
      exact ⟨rfl, by rw [← HK2.out]; exact ⟨lv1, HH1.out, HK1.out, HN1.out⟩⟩
theorem out_1 (size v : Int) :
    Calls Try.prog 12 #[.pointer (some ⟨b, 0, none⟩), .int .i64 1, .int .i64 size, .int .u32 v] w fun e w' => e = .returned (.int .i64 0) ∧ w = w' := by
  go_enter Try.func12, Try.ntmps12
  go_wp2_with fail
  refine (check_in 1 size).mono ?_
  rintro e w1 ⟨rfl, rfl⟩
  rw [show callErr 1 size = 0 from rfl]
  go_wp2_with fail
  go_returns
  exact ⟨rfl, rfl⟩
set_option maxHeartbeats 1000000 in
theorem out_7 (H : IdeIn 56 w b ds lv D) (size : Int) (v : Nat) (hv : v < 4294967296) :
    Calls Try.prog 12 #[.pointer (some ⟨b, 0, none⟩), .int .i64 7, .int .i64 size, .int .u32 v] w fun e w' => e = .returned (.int .i64 0) ∧ IdeIn 56 w' b ds lv (D.command (v % 256)) ∧ Keeps (· = b) w w' := by
  go_enter Try.func12, Try.ntmps12
  go_wp2_with fail
  refine (check_in 7 size).mono ?_
  rintro e w1 ⟨rfl, rfl⟩
  rw [show callErr 7 size = 0 from rfl]
  go_wp2_with fail
  refine (command_in H (v % 256) (Nat.mod_lt _ (by decide)) _ (by omega)).mono ?_
  rintro e w2 ⟨rfl, H2, K2⟩
  go_wp2_with fail
  go_returns
  exact ⟨rfl, H2, K2⟩
theorem Dk.setC_ok {S : Dk} (h : S.ok) (v : Nat) (hv : v < 256) : (S.setC v).ok := { h with c := hv }
theorem nat_field (x s k : Nat) : x &&& ((2 ^ k - 1) * 2 ^ s) = x / 2 ^ s % 2 ^ k * 2 ^ s := by
  rw [← Nat.shiftLeft_eq, ← Nat.shiftLeft_eq, ← Nat.shiftRight_eq_div_pow]
  apply Nat.eq_of_testBit_eq
  intro i
  simp only [Nat.testBit_and, Nat.testBit_shiftLeft, Nat.testBit_mod_two_pow, Nat.testBit_shiftRight, Nat.testBit_two_pow_sub_one]
  by_cases h : s ≤ i
  · have : s + (i - s) = i := by omega
    simp [h, this, Bool.and_comm]
  · simp [h]
theorem reset_bits (v : Nat) (hv : v < 4294967296) : (bits .and .u32 (v : Int) 4 != 0) = (v / 4 % 2 == 1) := by
  have e : bits .and .u32 (v : Int) 4 = ((v &&& 4 : Nat) : Int) := u32_and_nat v 4 hv (by decide)
  have h : v &&& 4 = v / 4 % 2 * 4 := nat_field v 2 1
  rw [e, h, Bool.eq_iff_iff]
  rcases Nat.mod_two_eq_zero_or_one (v / 4) with h0 | h0 <;> rw [h0] <;> decide
set_option maxHeartbeats 1000000 in
theorem out_8 (H : IdeIn 56 w b ds lv D) (size : Int) (v : Nat) (hv : v < 4294967296) :
    Calls Try.prog 12 #[.pointer (some ⟨b, 0, none⟩), .int .i64 8, .int .i64 size, .int .u32 v] w fun e w' =>
      e = .returned (.int .i64 0) ∧ IdeIn 56 w' b ds lv (if v / 4 % 2 == 1 then (D.setC (v % 256)).fresh else D.setC (v % 256)) ∧ Keeps (· = b) w w' := by
  obtain ⟨-, -, -, -, -, -, -, -, k8, -, -, -, -, -, kf, klt⟩ := H.facts
  have hb := reset_bits v hv
  have E := turned H (Blk.ctl (Blk.of H) (v % 256) ((v : Int) % 256) (by omega)) ((Keeps.refl _ w).setOne _ _) (Dk.setC_ok H.ok _ (Nat.mod_lt _ (by decide))) rfl rfl rfl
  have HE := Lib.hid E
  clear E H
  cases hx : v / 4 % 2 == 1
  all_goals
    rw [hx] at hb
    clear hx
    go_enter Try.func12, Try.ntmps12
    go_wp2_with fail
    refine (check_in 8 size).mono ?_
    rintro e w1 ⟨rfl, rfl⟩
    rw [show callErr 8 size = 0 from rfl]
    go_wp2_with fail
    first
      | (go_returns
         exact ⟨rfl, HE.out⟩)
      | (refine (reset_in HE.out.1).mono ?_
         rintro e w2 ⟨rfl, H2, K2⟩
         go_wp2_with fail
         go_returns
         exact ⟨rfl, H2, HE.out.2.trans K2⟩)
theorem Dk.setR_ok {S : Dk} (h : S.ok) (k v : Nat) (hv : v < 256) : (S.setR k v).ok := { h with r := upd_lt h.r k v hv }
set_option maxHeartbeats 1000000 in
theorem out_r (H : IdeIn 56 w b ds lv D) (r : Nat) (h2 : 2 ≤ r) (h6 : r ≤ 6) (size : Int) (v : Nat) (hv : v < 4294967296) :
    Calls Try.prog 12 #[.pointer (some ⟨b, 0, none⟩), .int .i64 (r : Nat), .int .i64 size, .int .u32 v] w fun e w' =>
      e = .returned (.int .i64 0) ∧ IdeIn 56 w' b ds lv (D.setR r (v % 256)) ∧ Keeps (· = b) w w' := by
  have hc := H.reg r (by omega)
  have kf : ∀ k, w.frozen? ⟨b, k, none⟩ = false := fun k => free_at H.obj
  have he : callErr (r : Int) size = 0 := by unfold callErr; rw [if_neg (by omega), if_neg (by omega)]
  have E := turned H (Blk.reg1 (Blk.of H) r (v % 256) ((v : Int) % 256) (by omega) (by omega)) ((Keeps.refl _ w).setOne _ _) (Dk.setR_ok H.ok r _ (Nat.mod_lt _ (by decide))) rfl rfl rfl
  have HE := Lib.hid E
  have HC := Lib.hid he
  have g0 : ((r : Int) == 0) = false := by simp; omega
  have g1 : ((r : Int) == 1) = false := by simp; omega
  have g7 : ((r : Int) == 7) = false := by simp; omega
  have g8 : ((r : Int) == 8) = false := by simp; omega
  have q0 : (0 : Int) ≤ (r : Int) := by omega
  have q1 : (r : Int) < 7 := by omega
  clear E H he h2 h6
  go_enter Try.func12, Try.ntmps12
  go_wp2_with fail
  refine (check_in (r : Int) size).mono ?_
  rintro e w1 ⟨rfl, rfl⟩
  rw [HC.out]
  go_wp2_with fail
  go_returns
  exact ⟨rfl, HE.out⟩
end
end Go.Proofs.Ytebhnfoehgpilaa
