/- IdeJ IdeK IdeL IdeM IdeN IdeO, together. -/
import Derived.Test.YtojmpdddfnkffaaMideb
import Derived.Laws.MakeOwn
/- ide: Out. -/
namespace Go.Proofs.Ytojmpdddfnkffaa.Ide
open Go.RowKit
set_option linter.unusedVariables false

/-- The first k bytes of a value are written, as long as this drive is meant. -/
def Dk.puts (S : Dk) (v : Nat) : Nat → Dk
  | 0 => S
  | k + 1 => if (S.puts v k).other then S.puts v k else (S.puts v k).putB (v / 256 ^ k % 256)
theorem Dk.puts_go (S : Dk) (v k : Nat) (h : (S.puts v k).other = false) : S.puts v (k + 1) = (S.puts v k).putB (v / 256 ^ k % 256) := by
  rw [Dk.puts, h]; rfl
theorem Dk.puts_stay (S : Dk) (v k : Nat) (h : (S.puts v k).other = true) (m : Nat) : S.puts v (k + m) = S.puts v k := by
  induction m with
  | zero => rfl
  | succ m ih => rw [show k + (m + 1) = (k + m) + 1 from rfl, Dk.puts, ih, h]; rfl
theorem step_log (S : Dk) : S.step.log = S.log := rfl
theorem begin_log (S : Dk) (m : Nat) : (S.begin m).log = S.log := by
  unfold Dk.begin
  split
  · split <;> rfl
  · rfl
theorem next_log (S : Dk) : S.next.log = S.log := by
  unfold Dk.next
  split
  · rfl
  · rw [begin_log, step_log]
theorem logAt_log (S : Dk) (p : Nat) : (S.logAt p).log = S.log ++ [p] := rfl
theorem write_log (S : Dk) : S.write.log = S.log ++ [S.place] := by unfold Dk.write; rw [logAt_log, Dk.flushAt_log]
theorem mark_log (S : Dk) (x : Bool) : ({ S with mark := x } : Dk).log = S.log := rfl
theorem fail_log (S : Dk) (e : Nat) : (S.fail e).log = S.log := rfl
theorem putB_log (S : Dk) (b : Nat) : (S.putB b).log.length ≤ S.log.length + 1 := by
  unfold Dk.putB
  split
  · split
    · rw [Dk.put1_log]; omega
    · split
      · rw [mark_log, next_log, write_log, List.length_append, Dk.put1_log]; exact Nat.le_refl _
      · rw [fail_log, Dk.put1_log]; omega
  · omega
theorem puts_log (S : Dk) (v k : Nat) : (S.puts v k).log.length ≤ S.log.length + k := by
  induction k with
  | zero => exact Nat.le_refl _
  | succ k ih =>
    rw [Dk.puts]
    split
    · omega
    · have := putB_log (S.puts v k) (v / 256 ^ k % 256); omega
theorem room_puts {S : Dk} (h : S.room) (v k : Nat) : (S.puts v k).room := by
  induction k with
  | zero => exact h
  | succ k ih =>
    rw [Dk.puts]
    split
    · exact ih
    · exact room_put ih _
/-- A disk behind puts: its blocks. -/
def Went (w : World) (b : Nat) (ds lv : Value) (D : Dk) (wr : World) : Prop :=
  ∃ lv', IdeIn 113 wr b ds lv' D ∧ Keeps (Held b ds lv) w wr ∧ ∀ k, lv'.ownBlock = some k → lv.ownBlock = some k ∨ w.heap.size ≤ k
theorem Went.next {w wr w1 : World} {b : Nat} {ds lv lv1 : Value} {D1 : Dk} (K : Keeps (Held b ds lv) w wr) (N : ∀ k, lv1.ownBlock = some k → lv.ownBlock = some k ∨ w.heap.size ≤ k) (h : Went wr b ds lv1 D1 w1) : Went w b ds lv D1 w1 := by
  obtain ⟨lv2, H, K2, N2⟩ := h
  refine ⟨lv2, H, K.andThen K2 fun i hi hs => ?_, fun k hk => ?_⟩
  · rcases hs with h | h | h
    · exact Or.inl h
    · exact Or.inr (Or.inl h)
    · rcases N i h with h | h
      · exact Or.inr (Or.inr h)
      · omega
  · rcases N2 k hk with h | h
    · exact N k h
    · exact .inr (Nat.le_trans K.size h)
theorem Went.drewN {w wr : World} {b : Nat} {ds lv : Value} {D : Dk} (h : Went w b ds lv D wr) (n : Nat) : Went w b ds lv D (wr.drewN n) := by
  obtain ⟨lv1, H, K, N⟩ := h
  exact ⟨lv1, H.drewN n, K.drewN n, N⟩
theorem Went.of {w wr : World} {b : Nat} {ds lv : Value} {D : Dk} (H : IdeIn 113 wr b ds lv D) (K : Keeps (· = b) w wr) : Went w b ds lv D wr := ⟨lv, H, K.mono fun k _ h => Or.inl h, fun k h => .inl h⟩
section
variable {w : World} {b : Nat} {ds lv : Value} {D : Dk}
theorem out_err (reg size v : Int) (x : Int) (he : callErr reg size = x) (hx : (x != 0) = true) :
    Calls Try.prog 27 #[.pointer (some ⟨b, 0, none⟩), .int .i64 reg, .int .i64 size, .int .u32 v] w fun e w' => e = .returned (.int .i64 x) ∧ w = w' := by
  have HC := Lib.hid (check_in (w := w) (b := b) reg size)
  have HE := Lib.hid he
  clear he
  go_enter Try.func27, Try.ntmps27
  go_wp2_with fail
  refine HC.out.mono ?_
  rintro e w1 ⟨rfl, rfl⟩
  rw [HE.out]
  go_wp2_with fail
  go_returns
  exact ⟨rfl, rfl⟩
theorem out_nil (reg size v : Int) (w : World) :
    Calls Try.prog 27 #[.pointer none, .int .i64 reg, .int .i64 size, .int .u32 v] w fun e w' => e = .returned (.int .i64 1) ∧ w = w' := by
  go_enter Try.func27, Try.ntmps27
  go_wp2_with fail
  refine (check_nil _ reg size).mono ?_
  rintro e w1 ⟨rfl, rfl⟩
  go_wp2_with fail
  go_returns
  exact ⟨rfl, rfl⟩
set_option maxHeartbeats 2000000 in
theorem out_0 (H : IdeIn 113 w b ds lv D) (hr : D.room) (s v : Nat) (hs : s = 1 ∨ s = 2 ∨ s = 4) (hv : v < 4294967296) (hL : D.log.length + 4 < 17592186044416) :
    Calls Try.prog 27 #[.pointer (some ⟨b, 0, none⟩), .int .i64 0, .int .i64 (s : Nat), .int .u32 v] w fun e w' => e = .returned (.int .i64 0) ∧ Went w b ds lv (D.puts v s) w' := by
  have he : callErr 0 (s : Int) = 0 := by unfold callErr; rcases hs with rfl | rfl | rfl <;> rfl
  have HC := Lib.hid (check_in (w := w) (b := b) 0 (s : Int))
  have HE := Lib.hid he
  have hs4 : s ≤ 4 := by omega
  have HS := Lib.hid hs
  have HL := Lib.hid hL
  have HH := Lib.hid H
  have HR := Lib.hid hr
  clear he hs hL H hr
  go_enter Try.func27, Try.ntmps27
  go_wp2_with fail
  refine HC.out.mono ?_
  rintro e w1 ⟨rfl, rfl⟩
  rw [HE.out]
  go_wp2_with fail
  go_loopw [10] (fun i wr => ∃ k : Nat, k ≤ s ∧ i = .int .i64 k ∧ Went w b ds lv (D.puts v k) wr) (fun i _ => s - (intOf i).toNat)
  case atStart => exact ⟨0, by omega, rfl, .of HH.out (Keeps.refl _ _)⟩
  case round =>
    obtain ⟨k, hk, rfl, lv1, H1, K1, N1⟩ := hrel
    have HH1 := Lib.hid H1
    have HK1 := Lib.hid K1
    have HN1 := Lib.hid N1
    clear H1 K1 N1
    by_cases hlt : k < s
    · cases ho : (D.puts v k).other
      · have HO := Lib.hid ho
        clear ho
        have q2 : (0 : Int) ≤ 8 * (k : Int) := by omega
        have q3 : (8 : Int) * (k : Int) ≤ 32 := by omega
        go_wp2_with fail
        refine (other_in HH1.out).mono ?_
        rintro e w2 ⟨rfl, rfl⟩
        rw [HO.out]
        go_wp2_with fail
        rw [shr_nat v k]
        refine (put_in HH1.out (room_puts HR.out v k) (v / 256 ^ k % 256) (Nat.mod_lt _ (by decide)) (by have := puts_log D v k; have := HL.out; omega)).mono ?_
        rintro e w2 ⟨rfl, lv2, H2, K2, N2⟩
        have G := Went.next HK1.out HN1.out (⟨lv2, H2, K2, N2⟩ : Went _ b ds lv1 _ w2)
        rw [← Dk.puts_go D v k HO.out] at G
        have HG := Lib.hid G
        clear H2 K2 N2 G
        go_wp2_with fail
        go_roundw
        case rel => exact ⟨k + 1, by omega, by go_num, HG.out⟩
        case measure => (simp [intOf]) <;> omega
      · have HO := Lib.hid ho
        clear ho
        go_wp2_with fail
        refine (other_in HH1.out).mono ?_
        rintro e w2 ⟨rfl, rfl⟩
        rw [HO.out]
        go_wp2_with fail
        go_returns
        have e := Dk.puts_stay D v k HO.out (s - k)
        rw [show k + (s - k) = s by omega] at e
        exact ⟨rfl, by rw [e]; exact ⟨lv1, HH1.out, HK1.out, HN1.out⟩⟩
    · have hk2 : k = s := by omega
      have HK2 := Lib.hid hk2
      clear hk2
      go_wp2_with fail
      go_returns
      exact ⟨rfl, by rw [← HK2.out]; exact ⟨lv1, HH1.out, HK1.out, HN1.out⟩⟩
theorem out_1 (size v : Int) :
    Calls Try.prog 27 #[.pointer (some ⟨b, 0, none⟩), .int .i64 1, .int .i64 size, .int .u32 v] w fun e w' => e = .returned (.int .i64 0) ∧ w = w' := by
  go_enter Try.func27, Try.ntmps27
  go_wp2_with fail
  refine (check_in 1 size).mono ?_
  rintro e w1 ⟨rfl, rfl⟩
  rw [show callErr 1 size = 0 from rfl]
  go_wp2_with fail
  go_returns
  exact ⟨rfl, rfl⟩
set_option maxHeartbeats 1000000 in
theorem out_7 (H : IdeIn 113 w b ds lv D) (size : Int) (v : Nat) (hv : v < 4294967296) :
    Calls Try.prog 27 #[.pointer (some ⟨b, 0, none⟩), .int .i64 7, .int .i64 size, .int .u32 v] w fun e w' => e = .returned (.int .i64 0) ∧ IdeIn 113 w' b ds lv (D.command (v % 256)) ∧ Keeps (· = b) w w' := by
  go_enter Try.func27, Try.ntmps27
  go_wp2_with fail
  refine (check_in 7 size).mono ?_
  rintro e w1 ⟨rfl, rfl⟩
  rw [show callErr 7 size = 0 from rfl]
  go_wp2_with fail
  refine (command_in H (v % 256) (Nat.mod_lt _ (by decide)) _ (by omega)).mono ?_
  rintro e w2 ⟨rfl, H2, K2⟩
  go_wp2_with fail
  go_returns
  exact ⟨rfl, H2, K2⟩
theorem Dk.setC_ok {S : Dk} (h : S.ok) (v : Nat) (hv : v < 256) : (S.setC v).ok := { h with c := hv }
theorem nat_field (x s k : Nat) : x &&& ((2 ^ k - 1) * 2 ^ s) = x / 2 ^ s % 2 ^ k * 2 ^ s := by
  rw [← Nat.shiftLeft_eq, ← Nat.shiftLeft_eq, ← Nat.shiftRight_eq_div_pow]
  apply Nat.eq_of_testBit_eq
  intro i
  simp only [Nat.testBit_and, Nat.testBit_shiftLeft, Nat.testBit_mod_two_pow, Nat.testBit_shiftRight, Nat.testBit_two_pow_sub_one]
  by_cases h : s ≤ i
  · have : s + (i - s) = i := by omega
    simp [h, this, Bool.and_comm]
  · simp [h]
theorem reset_bits (v : Nat) (hv : v < 4294967296) : (bits .and .u32 (v : Int) 4 != 0) = (v / 4 % 2 == 1) := by
  have e : bits .and .u32 (v : Int) 4 = ((v &&& 4 : Nat) : Int) := u32_and_nat v 4 hv (by decide)
  have h : v &&& 4 = v / 4 % 2 * 4 := nat_field v 2 1
  rw [e, h, Bool.eq_iff_iff]
  rcases Nat.mod_two_eq_zero_or_one (v / 4) with h0 | h0 <;> rw [h0] <;> decide
set_option maxHeartbeats 1000000 in
theorem out_8 (H : IdeIn 113 w b ds lv D) (size : Int) (v : Nat) (hv : v < 4294967296) :
    Calls Try.prog 27 #[.pointer (some ⟨b, 0, none⟩), .int .i64 8, .int .i64 size, .int .u32 v] w fun e w' =>
      e = .returned (.int .i64 0) ∧ IdeIn 113 w' b ds lv (if v / 4 % 2 == 1 then (D.setC (v % 256)).fresh else D.setC (v % 256)) ∧ Keeps (· = b) w w' := by
  obtain ⟨-, -, -, -, -, -, -, -, k8, -, -, -, -, -, kf, klt⟩ := H.facts
  have hb := reset_bits v hv
  have E := turned H (Blk.ctl (Blk.of H) (v % 256) ((v : Int) % 256) (by omega)) ((Keeps.refl _ w).setOne _ _) (Dk.setC_ok H.ok _ (Nat.mod_lt _ (by decide))) rfl rfl rfl
  have HE := Lib.hid E
  clear E H
  cases hx : v / 4 % 2 == 1
  all_goals
    rw [hx] at hb
    clear hx
    go_enter Try.func27, Try.ntmps27
    go_wp2_with fail
    refine (check_in 8 size).mono ?_
    rintro e w1 ⟨rfl, rfl⟩
    rw [show callErr 8 size = 0 from rfl]
    go_wp2_with fail
    first
      | (go_returns
         exact ⟨rfl, HE.out⟩)
      | (refine (reset_in HE.out.1).mono ?_
         rintro e w2 ⟨rfl, H2, K2⟩
         go_wp2_with fail
         go_returns
         exact ⟨rfl, H2, HE.out.2.trans K2⟩)
theorem Dk.setR_ok {S : Dk} (h : S.ok) (k v : Nat) (hv : v < 256) : (S.setR k v).ok := { h with r := upd_lt h.r k v hv }
set_option maxHeartbeats 1000000 in
theorem out_r (H : IdeIn 113 w b ds lv D) (r : Nat) (h2 : 2 ≤ r) (h6 : r ≤ 6) (size : Int) (v : Nat) (hv : v < 4294967296) :
    Calls Try.prog 27 #[.pointer (some ⟨b, 0, none⟩), .int .i64 (r : Nat), .int .i64 size, .int .u32 v] w fun e w' =>
      e = .returned (.int .i64 0) ∧ IdeIn 113 w' b ds lv (D.setR r (v % 256)) ∧ Keeps (· = b) w w' := by
  have hc := H.reg r (by omega)
  have kf : ∀ k, w.frozen? ⟨b, k, none⟩ = false := fun k => free_at H.obj
  have he : callErr (r : Int) size = 0 := by unfold callErr; rw [if_neg (by omega), if_neg (by omega)]
  have E := turned H (Blk.reg1 (Blk.of H) r (v % 256) ((v : Int) % 256) (by omega) (by omega)) ((Keeps.refl _ w).setOne _ _) (Dk.setR_ok H.ok r _ (Nat.mod_lt _ (by decide))) rfl rfl rfl
  have HE := Lib.hid E
  have HC := Lib.hid he
  have g0 : ((r : Int) == 0) = false := by simp; omega
  have g1 : ((r : Int) == 1) = false := by simp; omega
  have g7 : ((r : Int) == 7) = false := by simp; omega
  have g8 : ((r : Int) == 8) = false := by simp; omega
  have q0 : (0 : Int) ≤ (r : Int) := by omega
  have q1 : (r : Int) < 7 := by omega
  clear E H he h2 h6
  go_enter Try.func27, Try.ntmps27
  go_wp2_with fail
  refine (check_in (r : Int) size).mono ?_
  rintro e w1 ⟨rfl, rfl⟩
  rw [HC.out]
  go_wp2_with fail
  go_returns
  exact ⟨rfl, HE.out⟩
end
end Go.Proofs.Ytojmpdddfnkffaa.Ide

/- ide: In. -/
namespace Go.Proofs.Ytojmpdddfnkffaa.Ide
open Go.RowKit
set_option linter.unusedVariables false

theorem or_shift (v b k : Nat) (hv : v < 256 ^ k) (hb : b < 256) (hk : k < 4) : bits .or .u32 (v : Int) ((b : Int) * 2 ^ (8 * k) % 4294967296) = ((v + b * 256 ^ k : Nat) : Int) := by
  have hp : (256 : Nat) ^ k = 2 ^ (8 * k) := by rw [Nat.pow_mul]
  have hle : b * 256 ^ k ≤ 255 * 256 ^ k := Nat.mul_le_mul_right _ (by omega)
  have h3 : 256 ^ k ≤ 256 ^ 3 := Nat.pow_le_pow_right (by decide) (by omega)
  have e : ((b : Int) * 2 ^ (8 * k) % 4294967296) = ((b * 256 ^ k : Nat) : Int) := by
    rw [hp]
    rw [hp] at hle h3
    rw [Int.emod_eq_of_lt]
    · simp
    · exact Int.mul_nonneg (by omega) (Int.pow_nonneg (by decide))
    · have : ((b : Int) * 2 ^ (8 * k)) = ((b * 2 ^ (8 * k) : Nat) : Int) := by simp
      rw [this]; omega
  rw [e, u32_or_nat _ _ (by omega) (by omega), Nat.or_comm]
  congr 1
  rw [Nat.add_comm, hp]
  rw [hp] at hv
  exact nat_join (8 * k) _ _ (by simp) hv
/-- Behind k bytes that were read. -/
def Dk.getN (S : Dk) : Nat → Dk
  | 0 => S
  | k + 1 => (S.getN k).getB
def Dk.getV (S : Dk) : Nat → Nat
  | 0 => 0
  | k + 1 => S.getV k + (S.getN k).gets * 256 ^ k
theorem gets_lt {S : Dk} (h : S.ok) : S.gets < 256 := by
  unfold Dk.gets
  split
  · exact h.buf _
  · decide
theorem room_getN {S : Dk} (h : S.room) (k : Nat) : (S.getN k).room := by
  induction k with
  | zero => exact h
  | succ k ih => exact room_get ih
def Dk.status (S : Dk) : Nat := 80 + (if S.mode = 0 then 0 else 8) + (if S.failed then 1 else 0)
section
variable {w : World} {b : Nat} {ds lv : Value} {D : Dk}
theorem in_err (reg size : Int) (x : Int) (he : callErr reg size = x) (hx : (x != 0) = true) :
    Calls Try.prog 29 #[.pointer (some ⟨b, 0, none⟩), .int .i64 reg, .int .i64 size] w fun e w' => e = .returned (.tuple #[.int .u32 0, .int .i64 x]) ∧ w = w' := by
  have HC := Lib.hid (check_in (w := w) (b := b) reg size)
  have HE := Lib.hid he
  clear he
  go_enter Try.func29, Try.ntmps29
  go_wp2_with fail
  refine HC.out.mono ?_
  rintro e w1 ⟨rfl, rfl⟩
  rw [HE.out]
  go_wp2_with fail
  go_ret2
  exact ⟨rfl, rfl⟩
theorem in_nil (reg size : Int) (w : World) :
    Calls Try.prog 29 #[.pointer none, .int .i64 reg, .int .i64 size] w fun e w' => e = .returned (.tuple #[.int .u32 0, .int .i64 1]) ∧ w = w' := by
  go_enter Try.func29, Try.ntmps29
  go_wp2_with fail
  refine (check_nil _ reg size).mono ?_
  rintro e w1 ⟨rfl, rfl⟩
  go_wp2_with fail
  go_ret2
  exact ⟨rfl, rfl⟩
set_option maxHeartbeats 1000000 in
theorem in_other (H : IdeIn 113 w b ds lv D) (reg size : Int) (he : callErr reg size = 0) (ho : D.other = true) (h6 : reg ≠ 6) :
    Calls Try.prog 29 #[.pointer (some ⟨b, 0, none⟩), .int .i64 reg, .int .i64 size] w fun e w' => e = .returned (.tuple #[.int .u32 0, .int .i64 0]) ∧ w = w' := by
  have HC := Lib.hid (check_in (w := w) (b := b) reg size)
  have HE := Lib.hid he
  have HO := Lib.hid (other_in H)
  have H1 := Lib.hid ho
  have g : (reg != 6) = true := by simpa using h6
  clear he ho h6
  go_enter Try.func29, Try.ntmps29
  go_wp2_with fail
  refine HC.out.mono ?_
  rintro e w1 ⟨rfl, rfl⟩
  rw [HE.out]
  go_wp2_with fail
  refine HO.out.mono ?_
  rintro e w1 ⟨rfl, rfl⟩
  rw [H1.out]
  go_wp2_with fail
  go_ret2
  exact ⟨rfl, rfl⟩
set_option maxHeartbeats 1000000 in
theorem in_r (H : IdeIn 113 w b ds lv D) (r : Nat) (h1 : 1 ≤ r) (h6 : r ≤ 6) (size : Int) (ho : D.other = false ∨ r = 6) :
    Calls Try.prog 29 #[.pointer (some ⟨b, 0, none⟩), .int .i64 (r : Nat), .int .i64 size] w fun e w' => e = .returned (.tuple #[.int .u32 (D.r r : Nat), .int .i64 0]) ∧ w = w' := by
  have hc := H.reg r (by omega)
  have hlt := H.ok.r r
  have he : callErr (r : Int) size = 0 := by unfold callErr; rw [if_neg (by omega), if_neg (by omega)]
  have HE := Lib.hid he
  have HO := Lib.hid (other_in H)
  have g0 : ((r : Int) == 0) = false := by simp; omega
  have g7 : (r : Int) < 7 := by omega
  have q0 : (0 : Int) ≤ (r : Int) := by omega
  obtain ⟨u, hu⟩ : ∃ u, u = D.r r := ⟨_, rfl⟩
  rw [← hu] at hc hlt
  have HU := Lib.hid hu
  clear hu he H h1
  rcases ho with ho | ho
  · have H1 := Lib.hid ho
    clear ho
    go_enter Try.func29, Try.ntmps29
    go_wp2_with fail
    refine (check_in (r : Int) size).mono ?_
    rintro e w1 ⟨rfl, rfl⟩
    rw [HE.out]
    go_wp2_with fail
    refine HO.out.mono ?_
    rintro e w1 ⟨rfl, rfl⟩
    rw [H1.out]
    go_wp2_with fail
    go_ret2
    exact ⟨by rw [← HU.out]; rfl, rfl⟩
  · have g6 : ((r : Int) != 6) = false := by simp; omega
    clear ho
    cases hx : D.other
    all_goals
      have H1 := Lib.hid hx
      clear hx
      go_enter Try.func29, Try.ntmps29
      go_wp2_with fail
      refine (check_in (r : Int) size).mono ?_
      rintro e w1 ⟨rfl, rfl⟩
      rw [HE.out]
      go_wp2_with fail
      refine HO.out.mono ?_
      rintro e w1 ⟨rfl, rfl⟩
      rw [H1.out]
      go_wp2_with fail
      go_ret2
      exact ⟨by rw [← HU.out]; rfl, rfl⟩
theorem Dk.mark_ok {S : Dk} (h : S.ok) (x : Bool) : (S.setMark x).ok := { h with }
set_option maxHeartbeats 2000000 in
theorem in_s (H : IdeIn 113 w b ds lv D) (r : Int) (hr : r = 7 ∨ r = 8) (size : Int) (ho : D.other = false) :
    Calls Try.prog 29 #[.pointer (some ⟨b, 0, none⟩), .int .i64 r, .int .i64 size] w fun e w' => e = .returned (.tuple #[.int .u32 (D.status : Nat), .int .i64 0]) ∧ IdeIn 113 w' b ds lv (D.setMark (D.mark && r == 8)) ∧ Keeps (· = b) w w' := by
  obtain ⟨-, -, -, -, -, -, -, -, -, -, k10, k11, k12, -, kf, klt⟩ := H.facts
  have HO := Lib.hid (other_in H)
  have H1 := Lib.hid ho
  have HH := Lib.hid H
  have o1 : bits .or .u32 80 8 = 88 := by decide
  have o2 : bits .or .u32 88 1 = 89 := by decide
  have o3 : bits .or .u32 80 1 = 81 := by decide
  clear ho H
  obtain ⟨m, hm⟩ : ∃ m, m = D.mark := ⟨_, rfl⟩
  rw [← hm] at k11
  have HM := Lib.hid hm
  clear hm
  rcases hr with rfl | rfl
  all_goals
    cases hf : D.failed
    all_goals
      rw [hf] at k12
      have HF := Lib.hid hf
      clear hf
      by_cases hz : D.mode = 0
      · have g : (((D.mode : Nat) : Int) != 0) = false := by rw [hz]; rfl
        have HZ := Lib.hid hz
        clear hz
        cases m
        all_goals
          go_enter Try.func29, Try.ntmps29
          go_wp2_with fail
          refine (check_in _ size).mono ?_
          rintro e w1 ⟨rfl, rfl⟩
          first | rw [show callErr 7 size = 0 from rfl] | rw [show callErr 8 size = 0 from rfl]
          go_wp2_with fail
          refine HO.out.mono ?_
          rintro e w1 ⟨rfl, rfl⟩
          rw [H1.out]
          go_wp2_with fail
          go_ret2
          refine ⟨by unfold Dk.status; rw [HZ.out, HF.out]; rfl, ?_⟩
          rw [← HM.out]
          exact turned HH.out (Blk.mark (Blk.of HH.out) _) ((Keeps.refl _ _).setOne _ _) (Dk.mark_ok HH.out.ok _) rfl rfl rfl
      · have g : (((D.mode : Nat) : Int) != 0) = true := by simp; omega
        have HZ := Lib.hid hz
        clear hz
        cases m
        all_goals
          go_enter Try.func29, Try.ntmps29
          go_wp2_with fail
          refine (check_in _ size).mono ?_
          rintro e w1 ⟨rfl, rfl⟩
          first | rw [show callErr 7 size = 0 from rfl] | rw [show callErr 8 size = 0 from rfl]
          go_wp2_with fail
          refine HO.out.mono ?_
          rintro e w1 ⟨rfl, rfl⟩
          rw [H1.out]
          go_wp2_with fail
          go_ret2
          refine ⟨by unfold Dk.status; rw [if_neg HZ.out, HF.out]; rfl, ?_⟩
          rw [← HM.out]
          exact turned HH.out (Blk.mark (Blk.of HH.out) _) ((Keeps.refl _ _).setOne _ _) (Dk.mark_ok HH.out.ok _) rfl rfl rfl
set_option maxHeartbeats 2000000 in
theorem in_0 (H : IdeIn 113 w b ds lv D) (hr : D.room) (s : Nat) (hs : s = 1 ∨ s = 2 ∨ s = 4) (ho : D.other = false) :
    Calls Try.prog 29 #[.pointer (some ⟨b, 0, none⟩), .int .i64 0, .int .i64 (s : Nat)] w fun e w' => e = .returned (.tuple #[.int .u32 (D.getV s : Nat), .int .i64 0]) ∧ IdeIn 113 w' b ds lv (D.getN s) ∧ Keeps (· = b) w w' := by
  have he : callErr 0 (s : Int) = 0 := by unfold callErr; rcases hs with rfl | rfl | rfl <;> rfl
  have HC := Lib.hid (check_in (w := w) (b := b) 0 (s : Int))
  have HE := Lib.hid he
  have HO := Lib.hid (other_in H)
  have H1 := Lib.hid ho
  have hs4 : s ≤ 4 := by omega
  have HH := Lib.hid H
  have HR := Lib.hid hr
  clear he hs H hr ho
  go_enter Try.func29, Try.ntmps29
  go_wp2_with fail
  refine HC.out.mono ?_
  rintro e w1 ⟨rfl, rfl⟩
  rw [HE.out]
  go_wp2_with fail
  refine HO.out.mono ?_
  rintro e w1 ⟨rfl, rfl⟩
  rw [H1.out]
  go_wp2_with fail
  go_loopw [9, 53] (fun v i wr => ∃ k : Nat, k ≤ s ∧ i = .int .i64 k ∧ v = .int .u32 (D.getV k : Nat) ∧ D.getV k < 256 ^ k ∧ IdeIn 113 wr b ds lv (D.getN k) ∧ Keeps (· = b) w wr) (fun _ i _ => s - (intOf i).toNat)
  case atStart => exact ⟨0, by omega, rfl, rfl, (show (0 : Nat) < 1 by decide), HH.out, Keeps.refl _ _⟩
  case round =>
    obtain ⟨k, hk, rfl, rfl, hlt, H2, K2⟩ := hrel
    have HH2 := Lib.hid H2
    have HK2 := Lib.hid K2
    have HL := Lib.hid hlt
    clear H2 K2 hlt
    by_cases hks : k < s
    · have q2 : (0 : Int) ≤ 8 * (k : Int) := by omega
      have q3 : (8 : Int) * (k : Int) ≤ 32 := by omega
      have hgl := gets_lt HH2.out.ok
      have HGL := Lib.hid hgl
      have HOR := Lib.hid (or_shift (D.getV k) ((D.getN k).gets) k HL.out hgl (by omega))
      have hv32 : D.getV k < 4294967296 := Nat.lt_of_lt_of_le HL.out (Nat.le_trans (Nat.pow_le_pow_right (by decide) (show k ≤ 4 by omega)) (by decide))
      go_wp2_with fail
      refine (get_in HH2.out (room_getN HR.out k)).mono ?_
      rintro e w3 ⟨rfl, H3, K3⟩
      go_wp2_with fail
      go_roundw
      case rel =>
        refine ⟨k + 1, by omega, by go_num, by rw [HOR.out]; rfl, ?_, H3, HK2.out.trans K3⟩
        show D.getV k + (D.getN k).gets * 256 ^ k < 256 ^ (k + 1)
        have h1 := HL.out
        have h2 : (D.getN k).gets * 256 ^ k ≤ 255 * 256 ^ k := Nat.mul_le_mul_right _ (by have := HGL.out; omega)
        rw [Nat.pow_succ]; omega
      case measure => (simp [intOf]) <;> omega
    · have hk2 : k = s := by omega
      have HKS := Lib.hid hk2
      clear hk2
      go_wp2_with fail
      go_ret2
      exact ⟨by rw [← HKS.out]; rfl, by rw [← HKS.out]; exact HH2.out, HK2.out⟩
end
end Go.Proofs.Ytojmpdddfnkffaa.Ide

/- ide: New, Written, Disk. -/
namespace Go.Proofs.Ytojmpdddfnkffaa.Ide
open Go.RowKit
set_option linter.unusedVariables false

/-- A disk as it is made. -/
def Dk.made (n : Nat) (d : Nat → Nat) : Dk := ⟨n, d, fun _ => 0, 0, fun _ => 0, 0, 0, false, false, []⟩
theorem Dk.made_ok {n : Nat} {d : Nat → Nat} (hn : n ≤ 64) (hd : ∀ i, d i < 256) : (Dk.made n d).ok :=
  ⟨hn, hd, fun _ => (by show (0 : Nat) < 256; decide), (by show (0 : Nat) < 256; decide), fun _ => (by show (0 : Nat) < 256; decide), (by show (0 : Nat) ≤ 512; decide), (by show (0 : Nat) < 4; decide), fun x hx => by cases hx⟩
def blank : Dk := Dk.made 0 fun _ => 0
theorem made_cells (n : Nat) (d : Nat → Nat) (ds lv : Value) : (Dk.made n d).cells ds lv = blank.cells ds lv := rfl
set_option maxRecDepth 100000 in
theorem built_new (a : Option Addr) (m c : Nat) : Try.prog.built 113 [(0, .slice a m c)] = some (blank.cells (.slice a m c) (.slice none 0 0)) := by kernel_rfl
def Dk.new (n : Nat) (d : Nat → Nat) : Dk := (Dk.made n d).fresh
set_option maxHeartbeats 2000000 in
theorem new_yes {w : World} {v : Value} {n : Nat} {d : Nat → Nat} (H : Reads w v (n * 512) d) (hn : n ≤ 64) (hd : ∀ i, d i < 256) :
    Calls Try.prog 34 #[v] w fun e w' => ∃ b ds, e = .returned (.tuple #[.pointer (some ⟨b, 0, none⟩), .int .i64 0]) ∧ IdeIn 113 w' b ds (.slice none 0 0) (Dk.new n d) ∧ w.heap.size ≤ b ∧ (∀ k, ds.ownBlock = some k → w.heap.size ≤ k) ∧ Below w.heap.size w w' := by
  have HC := Lib.hid (clone_any H (by omega))
  obtain ⟨a, c, rfl, hx⟩ := H
  clear hx
  have q1 : ((n * 512 : Nat) : Int) % 512 = 0 := by omega
  have q2 : ((n * 512 : Nat) : Int) ≤ 32768 := by omega
  obtain ⟨L, hL⟩ : ∃ L, L = n * 512 := ⟨_, rfl⟩
  rw [← hL] at q1 q2 HC ⊢
  have HL := Lib.hid hL
  clear hL hn
  go_enter Try.func34, Try.ntmps34
  go_wp2_with fail
  refine HC.out.mono ?_
  rintro e w1 ⟨ds, rfl, hown, hb⟩
  obtain ⟨a', m', c', rfl⟩ := row_slice hown
  have HW := Lib.hid hown
  clear hown
  go_wp2_with ((refine wpList_build_eq (o := ⟨some 16, _, _, _, _, _⟩) ?hg0 113 ?pt0 ?ho0 (blank.cells (.slice a' m' c') (.slice none 0 0)) ?hb0 ?_); (case ho0 => rfl); (case hg0 => rfl); (case hb0 => (simp only [List.map_toArray, List.map_cons, List.map_nil]; exact built_new a' m' c')))
  have H1 : IdeIn 113 (w1.alloc (.cells (blank.cells (.slice a' m' c') (.slice none 0 0)) 113)) w1.heap.size (.slice a' m' c') (.slice none 0 0) (Dk.made n d) := by
    have hlt := World.ownsRow.lt HW.out
    refine { obj := heap_new w1 _, disk := ?_, log := World.ownsRow_nil _ _ _ _, d1 := fun e => ?_, d2 := (fun e => by cases e), d3 := (fun k _ e => by cases e), ok := Dk.made_ok (by have := HL.out; omega) hd }
    · have hr := row_base HW.out
      rw [HL.out] at hr
      exact hr.alloc _
    · exact Nat.lt_irrefl _ (hlt _ e).2
  have HH1 := Lib.hid H1
  clear H1
  refine (reset_in HH1.out).mono ?_
  rintro e w2 ⟨rfl, H2, K2⟩
  have HH2 := Lib.hid H2
  clear H2
  go_wp2_with fail
  go_ret2
  refine ⟨w1.heap.size, .slice a' m' c', rfl, HH2.out, hb.size, fun k hk => (World.ownsRow.lt HW.out k hk).1, ?_⟩
  exact Keeps.toBelow (hb.alloc hb.size _) K2 (by simp; have := hb.size; omega) (fun i h => by rw [h]; exact hb.size)
theorem new_bad {w : World} (a : Option Addr) (m c : Nat) (h : m % 512 ≠ 0 ∨ 32768 < m) :
    Calls Try.prog 34 #[.slice a m c] w fun e w' => e = .returned (.tuple #[.pointer none, .int .i64 140]) ∧ w = w' := by
  by_cases h1 : m % 512 = 0
  · have h2 : 32768 < m := by omega
    have q1 : ((m : Int) % 512 != 0) = false := by simp; omega
    have q2 : (32768 : Int) < (m : Int) := by omega
    clear h h1 h2
    go_enter Try.func34, Try.ntmps34
    go_wp2_with fail
    go_ret2
    exact ⟨rfl, rfl⟩
  · have q1 : ((m : Int) % 512 != 0) = true := by simp; omega
    clear h h1
    go_enter Try.func34, Try.ntmps34
    go_wp2_with fail
    go_ret2
    exact ⟨rfl, rfl⟩
section
variable {w : World} {b : Nat} {ds lv : Value} {D : Dk}
def Dk.quit (S : Dk) : Dk := { S with log := [] }
theorem Dk.quit_ok {S : Dk} (h : S.ok) : S.quit.ok := { h with log := fun x hx => by cases hx }
set_option maxHeartbeats 1000000 in
theorem written_in (H : IdeIn 113 w b ds lv D) :
    Calls Try.prog 51 #[.pointer (some ⟨b, 0, none⟩)] w fun e w' => e = .returned lv ∧ IdeIn 113 w' b ds (.slice none 0 0) D.quit ∧ Keeps (· = b) w w' := by
  obtain ⟨-, -, -, -, -, -, -, -, -, -, -, -, -, k13, kf, klt⟩ := H.facts
  obtain ⟨a, m, c, rfl⟩ := row_slice H.log
  have HH := Lib.hid H
  clear H
  go_enter Try.func51, Try.ntmps51
  go_wp2_with fail
  go_ret
  have K : Keeps (· = b) w (w.setCell ⟨b, 525, none⟩ (.slice none 0 0)) := (Keeps.refl _ w).setOne _ _
  refine ⟨rfl, ({ obj := ?_, disk := ?_, log := World.ownsRow_nil _ _ _ _, d1 := HH.out.d1, d2 := (fun e => by cases e), d3 := (fun k _ e => by cases e), ok := Dk.quit_ok HH.out.ok } : IdeIn _ _ _ _ _ _), K⟩
  · rw [heap_set_same (.slice none 0 0) HH.out.obj, Dk.put_log D ds (.slice a m c) [] (.slice none 0 0)]; rfl
  · exact HH.out.disk.of_heap fun k hk => K.block k (HH.out.disk.lt hk) (fun e => HH.out.d1 (by rw [← e]; exact hk))
theorem reads_row {w : World} {v : Value} {n : Nat} {d : Nat → Nat} {B : Nat} (h : w.ownsRow B 5 1 v n (bytesL n d)) : Reads w v n d := by
  rcases h.2 with ⟨rfl, rfl⟩ | ⟨g, cap, cur, rfl, _, hg, h1, h2, h3, h4⟩
  · exact ⟨none, 0, rfl, .inl ⟨rfl, fun _ => rfl⟩⟩
  · rw [Nat.mul_one] at h4
    exact ⟨_, _, rfl, .inr ⟨g, 0, rfl, heap_lt hg, fun i hi => by rw [cell_at hg, Nat.zero_add]; exact take_at h4 hi⟩⟩
set_option maxHeartbeats 1000000 in
theorem disk_in (H : IdeIn 113 w b ds lv D) :
    Calls Try.prog 33 #[.pointer (some ⟨b, 0, none⟩)] w fun e w' => ∃ v, e = .returned v ∧ w'.ownsRow w.heap.size 5 1 v (D.n * 512) (bytesL (D.n * 512) D.d) ∧ Below w.heap.size w w' := by
  obtain ⟨k0, -⟩ := H.facts
  have HC := Lib.hid (clone_any (reads_row H.disk) (by have := H.ok.n; omega))
  obtain ⟨a, m, c, rfl⟩ := row_slice H.disk
  clear H
  go_enter Try.func33, Try.ntmps33
  go_wp2_with fail
  refine HC.out.mono ?_
  rintro e w1 ⟨v, rfl, h1, h2⟩
  have H1 := Lib.hid h1
  clear h1
  go_wp2_with fail
  go_ret
  exact ⟨v, rfl, H1.out, h2⟩
theorem disk_nil (w : World) : Calls Try.prog 33 #[.pointer none] w fun e w' => e = .returned (.slice none 0 0) ∧ w = w' := by
  go_enter Try.func33, Try.ntmps33
  go_wp2_with fail
  go_ret
  exact ⟨rfl, rfl⟩
end
end Go.Proofs.Ytojmpdddfnkffaa.Ide

/- ide's laws: a disk's bytes; a command at a place; two lists. -/
namespace Go.Proofs.Ytojmpdddfnkffaa.Ide
open Go.RowKit
set_option linter.unusedVariables false

/-- n cells of a value. -/
def fresh (n : Nat) (z : Value) : Array Value := Array.replicate n z
theorem made_fresh (z : Value) (n : Nat) (hz : z.cells = #[z]) : madeCells z.cells (n * 1) = fresh n z := by
  rw [hz]
  apply Array.ext_getElem?
  intro j
  unfold madeCells fresh
  simp [Array.getElem?_replicate, Array.getElem?_map, Array.getElem?_range]
  by_cases h : j < n <;> simp [h, Nat.mod_one]
theorem make_run (w : World) (T E : TypeId) (z : Value) (bytes n : Nat) (hT : Try.prog.underlying T = some (.slice E)) (hi : (Try.prog.info? E).map (fun i => (i.zero, i.size, i.bytes)) = some (some z, 1, bytes)) (hz : z.cells = #[z])
    (hb : bytes * n ≤ 281474976710656) (hn : n ≤ 9223372036854775807) (x y : Int) (hx : x = (n : Int)) (hy : y = (n : Int)) :
    (Instr.makeSlice T (.int .i64 x) (.int .i64 y)).run Try.prog w = .ok (.slice (some ⟨w.heap.size, 0, .none⟩) n n) (w.alloc (.cells (fresh n z) E)) := by
  subst hx hy
  cases h : Try.prog.info? E with
  | none => rw [h] at hi; cases hi
  | some i =>
    rw [h] at hi
    simp only [Option.map_some, Option.some.injEq, Prod.mk.injEq] at hi
    obtain ⟨h1, h2, h3⟩ := hi
    have hb' : (i.bytes : Int) * (n : Int) ≤ 281474976710656 := by
      have : ((bytes * n : Nat) : Int) ≤ 281474976710656 := by omega
      rw [h3]; rwa [Int.natCast_mul] at this
    have := run_make (P := Try.prog) w T E i z hT h h1 .i64 .i64 (n : Int) (n : Int) (by omega) (Int.le_refl _) hb' (by omega)
    rw [this, h2, Int.toNat_natCast, made_fresh z n hz]
theorem make_bytes (w : World) (n : Nat) (h : n ≤ 281474976710656) (x y : Int) (hx : x = (n : Int)) (hy : y = (n : Int)) :
    (Instr.makeSlice 30 (.int .i64 x) (.int .i64 y)).run Try.prog w = .ok (.slice (some ⟨w.heap.size, 0, .none⟩) n n) (w.alloc (.cells (fresh n (.int .u8 0)) 5)) :=
  make_run w _ _ _ 1 n Try.underlying30 (by kernel_rfl) rfl (by omega) (by omega) x y hx hy

/-- A byte of the laws' disk. -/
def dsk (seed i : Nat) : Nat := ((i / 512 + 1) * 16 + i % 7 + seed) % 256
theorem dsk_lt (seed i : Nat) : dsk seed i < 256 := Nat.mod_lt _ (by decide)
/-- The first k bytes are laid. -/
def dskCells (m seed k : Nat) : Array Value := Array.ofFn (n := m) fun i => .int .u8 ((if i.val < k then dsk seed i.val else 0 : Nat) : Int)
theorem dsk_zero (m seed : Nat) : fresh m (.int .u8 0) = dskCells m seed 0 := by
  apply Array.ext_getElem?
  intro j
  unfold dskCells fresh
  rw [Array.getElem?_replicate, Array.getElem?_ofFn]
  by_cases h : j < m <;> simp [h]
theorem dsk_set (m seed k : Nat) (hk : k < m) : (dskCells m seed k).setIfInBounds k (.int .u8 (dsk seed k : Nat)) = dskCells m seed (k + 1) := by
  unfold dskCells
  rw [ofFn_set m (fun i => .int .u8 ((if i < k then dsk seed i else 0 : Nat) : Int)) k]
  refine ofFn_ext (f := fun i => if i = k then .int .u8 (dsk seed k : Nat) else .int .u8 ((if i < k then dsk seed i else 0 : Nat) : Int)) (g := fun i => .int .u8 ((if i < k + 1 then dsk seed i else 0 : Nat) : Int)) fun i hi => ?_
  by_cases e : i = k
  · subst e; rw [if_pos rfl, if_pos (Nat.lt_succ_self _)]
  · rw [if_neg e]
    by_cases h : i < k
    · rw [if_pos h, if_pos (by omega)]
    · rw [if_neg h, if_neg (by omega)]
theorem dsk_full (m seed : Nat) : (dskCells m seed m).toList = bytesL m (dsk seed) := by
  apply List.ext_getElem?
  intro j
  rw [Array.getElem?_toList]
  unfold dskCells
  rw [Array.getElem?_ofFn]
  by_cases h : j < m
  · rw [dif_pos h, bytesL_at _ _ _ h]; show some (Value.int .u8 ((if j < m then dsk seed j else 0 : Nat) : Int)) = _; rw [if_pos h]
  · rw [dif_neg h, bytesL_no _ _ _ (by omega)]
theorem dsk_cell {w : World} {g m seed k i : Nat} {T : TypeId} (h : w.heap[g]? = some (.cells (dskCells m seed k) T)) (hi : i < m) : ∃ x, w.cell? ⟨g, i, none⟩ = some (.int .u8 x) := by
  rw [cell_at h]; unfold dskCells; rw [Array.getElem?_ofFn, dif_pos hi]; exact ⟨_, rfl⟩
/-- How many sectors. -/
def secs (s : Int) : Nat := ((if s < 0 then -(s + 1) else s) % 5).toNat
theorem secs_lt (s : Int) : secs s < 5 := by unfold secs; omega
set_option maxHeartbeats 2000000 in
theorem lawdisk_any (s : Int) (h0 : -9223372036854775808 ≤ s) (h1 : s ≤ 9223372036854775807) (seed : Nat) (hs : seed < 256) (w : World) :
    Calls Try.prog 9 #[.int .i64 s, .int .u8 seed] w fun e w' => ∃ v, e = .returned v ∧ w'.ownsRow w.heap.size 5 1 v (secs s * 512) (bytesL (secs s * 512) (dsk seed)) ∧ Below w.heap.size w w' := by
  obtain ⟨n, hn⟩ : ∃ n, n = secs s := ⟨_, rfl⟩
  rw [← hn]
  have hn5 : n < 5 := by rw [hn]; exact secs_lt s
  have HN := Lib.hid hn
  have main : ∀ t : Int, (t = if s < 0 then -(s + 1) else s) → 0 ≤ t ∧ t % 5 = (n : Int) := fun t ht => by
    have := HN.out
    unfold secs at this
    rw [← ht] at this
    by_cases h : s < 0
    · rw [if_pos h] at ht; omega
    · rw [if_neg h] at ht; omega
  have HM := Lib.hid main
  obtain ⟨m, hm⟩ : ∃ m, m = n * 512 := ⟨_, rfl⟩
  rw [← hm]
  have hm2 : m ≤ 2048 := by omega
  have HMM := Lib.hid hm
  clear hn main hm
  go_enter Try.func9, Try.ntmps9
  go_upto_if 8 with (fail)
  go_cut [0] from 7 (fun x wc => ∃ t : Int, x = .int .i64 t ∧ (0 ≤ t ∧ t % 5 = (n : Int)) ∧ w = wc)
  case first =>
    by_cases hneg : s < 0
    · have q : 0 ≤ -(s + 1) := by omega
      go_wp2_with fail
      go_meet
      exact ⟨_, rfl, HM.out _ (if_pos hneg).symm, rfl⟩
    · go_wp2_with fail
      go_meet
      exact ⟨_, rfl, HM.out _ (if_neg (by omega)).symm, rfl⟩
  case rest =>
    obtain ⟨t, rfl, ⟨t0, t5⟩, rfl⟩ := hcut
    have hq : t % 5 * 512 = (m : Int) := by have := HMM.out; omega
    have hmk := make_bytes w m (by omega) (t % 5 * 512) (t % 5 * 512) hq hq
    clear hq t5 h0 h1 hn5
    go_wp2_with fail
    have HS0 := Lib.hid (dsk_zero m seed)
    rw [HS0.out]
    clear hmk
    go_loopw [6] (fun i wr => ∃ k : Nat, k ≤ m ∧ i = .int .i64 k ∧ wr.heap[w.heap.size]? = some (.cells (dskCells m seed k) 5) ∧ Below w.heap.size w wr) (fun i _ => m - (intOf i).toNat)
    case atStart => exact ⟨0, by omega, rfl, heap_new w _, (Below.refl _ _).alloc (Nat.le_refl _) _⟩
    case round =>
      obtain ⟨k, hk, rfl, hg, hB⟩ := hrel
      have hfz : ∀ j, wr.frozen? ⟨w.heap.size, j, none⟩ = false := fun j => free_at hg
      have hl := heap_lt hg
      by_cases hlt : k < m
      · obtain ⟨x, hx⟩ := dsk_cell hg hlt
        have HG := Lib.hid hg
        have q1 : (0 : Int) ≤ (k : Int) := by omega
        have q2 : (k : Int) < (m : Int) := by omega
        have q3 : (k : Int) < 2048 := by omega
        clear hg
        go_wp2_with fail
        go_roundw
        case rel =>
          refine ⟨k + 1, by omega, by go_num, ?_, hB.setCell (Nat.le_refl _) _⟩
          rw [← dsk_set m seed k hlt]
          have := heap_set_same (.int .u8 (dsk seed k : Nat)) (k := k) HG.out
          trace_state
          exact this
        case measure => (simp [intOf]) <;> omega
      · have hk2 : k = m := by omega
        have HK := Lib.hid hk2
        have HG := Lib.hid hg
        clear hk2 hg
        go_wp2_with fail
        go_ret
        have hg2 := HG.out
        rw [HK.out] at hg2
        refine ⟨_, rfl, ⟨by rw [bytesL_len]; omega, .inr ⟨w.heap.size, m, _, rfl, Nat.le_refl _, hg2, Nat.le_refl _, by unfold maxLen; omega, ?_, ?_⟩⟩, hB⟩
        · unfold dskCells; rw [Array.size_ofFn]; omega
        · rw [dsk_full, Nat.mul_one, List.take_of_length_le (by rw [bytesL_len]; exact Nat.le_refl _)]
end Go.Proofs.Ytojmpdddfnkffaa.Ide

/- ide: any write and any read of a register, as one; a disk that a law has made. -/
namespace Go.Proofs.Ytojmpdddfnkffaa.Ide
open Go.RowKit
set_option linter.unusedVariables false

def Dk.out (S : Dk) (reg size : Int) (v : Nat) : Dk :=
  if callErr reg size ≠ 0 then S
  else if reg = 0 then S.puts v size.toNat
  else if reg = 1 then S
  else if reg = 7 then S.command (v % 256)
  else if reg = 8 then (if v / 4 % 2 == 1 then (S.setC (v % 256)).fresh else S.setC (v % 256))
  else S.setR reg.toNat (v % 256)
def Dk.inV (S : Dk) (reg size : Int) : Nat :=
  if callErr reg size ≠ 0 then 0
  else if S.other ∧ reg ≠ 6 then 0
  else if reg = 0 then S.getV size.toNat
  else if reg < 7 then S.r reg.toNat
  else S.status
def Dk.inS (S : Dk) (reg size : Int) : Dk :=
  if callErr reg size ≠ 0 then S
  else if S.other ∧ reg ≠ 6 then S
  else if reg = 0 then S.getN size.toNat
  else if reg < 7 then S
  else S.setMark (S.mark && reg == 8)
theorem Dk.room_out {S : Dk} (h : S.room) (reg size : Int) (v : Nat) : (S.out reg size v).room := by
  unfold Dk.out
  split
  · exact h
  split
  · exact room_puts h _ _
  split
  · exact h
  split
  · exact room_command h _
  split
  · split
    · exact room_fresh _
    · exact h
  · exact h
theorem Dk.room_inS {S : Dk} (h : S.room) (reg size : Int) : (S.inS reg size).room := by
  unfold Dk.inS
  split
  · exact h
  split
  · exact h
  split
  · exact room_getN h _
  split
  · exact h
  · exact h
theorem command_log (S : Dk) (c : Nat) : (S.command c).log = S.log := by
  unfold Dk.command
  split
  · rfl
  split
  · split
    · rfl
    · rw [begin_log]; rfl
  split
  · split
    · rfl
    · rw [begin_log]; rfl
  split
  · rfl
  split <;> rfl
theorem out_log (S : Dk) (reg size : Int) (v : Nat) (h : callErr reg size = 0) : (S.out reg size v).log.length ≤ S.log.length + (if reg = 0 then 4 else 0) := by
  unfold Dk.out
  rw [if_neg (by omega)]
  by_cases h0 : reg = 0
  · rw [if_pos h0, if_pos h0]
    refine Nat.le_trans (puts_log _ _ _) ?_
    subst h0
    unfold callErr at h
    split at h
    · omega
    · split at h
      · omega
      · omega
  · rw [if_neg h0, if_neg h0]
    split
    · exact Nat.le_refl _
    split
    · rw [command_log]; exact Nat.le_refl _
    split
    · split <;> exact Nat.le_refl _
    · exact Nat.le_refl _
section
variable {w : World} {b : Nat} {ds lv : Value} {D : Dk}
theorem out_any (H : IdeIn 113 w b ds lv D) (hr : D.room) (reg size : Int) (v : Nat) (hv : v < 4294967296) (hL : D.log.length + 4 < 17592186044416) :
    Calls Try.prog 27 #[.pointer (some ⟨b, 0, none⟩), .int .i64 reg, .int .i64 size, .int .u32 v] w fun e w' => e = .returned (.int .i64 (callErr reg size)) ∧ Went w b ds lv (D.out reg size v) w' := by
  unfold Dk.out
  by_cases he : callErr reg size = 0
  · rw [if_neg (by omega), he]
    have he2 := he
    unfold callErr at he2
    by_cases h0 : reg = 0
    · subst h0
      have hs : size = 1 ∨ size = 2 ∨ size = 4 := by
        split at he2
        · omega
        · split at he2
          · omega
          · omega
      rw [if_pos rfl]
      have := out_0 H hr size.toNat v (by omega) hv hL
      rwa [show ((size.toNat : Nat) : Int) = size by omega] at this
    · rw [if_neg h0]
      by_cases h1 : reg = 1
      · subst h1
        rw [if_pos rfl]
        refine (out_1 size v).mono ?_
        rintro e w1 ⟨rfl, rfl⟩
        exact ⟨rfl, Went.of H (Keeps.refl _ _)⟩
      · rw [if_neg h1]
        by_cases h7 : reg = 7
        · subst h7
          rw [if_pos rfl]
          refine (out_7 H size v hv).mono ?_
          rintro e w1 ⟨rfl, H1, K⟩
          exact ⟨rfl, Went.of H1 K⟩
        · rw [if_neg h7]
          by_cases h8 : reg = 8
          · subst h8
            rw [if_pos rfl]
            refine (out_8 H size v hv).mono ?_
            rintro e w1 ⟨rfl, H1, K⟩
            exact ⟨rfl, Went.of H1 K⟩
          · rw [if_neg h8]
            have hr2 : 0 ≤ reg ∧ reg ≤ 8 := by
              split at he2
              · omega
              · omega
            have := out_r H reg.toNat (by omega) (by omega) size v hv
            rw [show ((reg.toNat : Nat) : Int) = reg by omega] at this
            refine this.mono ?_
            rintro e w1 ⟨rfl, H1, K⟩
            exact ⟨rfl, Went.of H1 K⟩
  · rw [if_pos he]
    refine (out_err reg size v _ rfl (by simpa using he)).mono ?_
    rintro e w1 ⟨rfl, rfl⟩
    exact ⟨rfl, Went.of H (Keeps.refl _ _)⟩
theorem in_any (H : IdeIn 113 w b ds lv D) (hr : D.room) (reg size : Int) :
    Calls Try.prog 29 #[.pointer (some ⟨b, 0, none⟩), .int .i64 reg, .int .i64 size] w fun e w' => e = .returned (.tuple #[.int .u32 (D.inV reg size : Nat), .int .i64 (callErr reg size)]) ∧ Went w b ds lv (D.inS reg size) w' := by
  unfold Dk.inV Dk.inS
  by_cases he : callErr reg size = 0
  · have he2 := he
    unfold callErr at he2
    have hz : ¬ (callErr reg size ≠ 0) := fun h => h he
    rw [if_neg hz, if_neg hz, he]
    by_cases ho : D.other = true ∧ reg ≠ 6
    · rw [if_pos ho, if_pos ho]
      refine (in_other H reg size he ho.1 ho.2).mono ?_
      rintro e w1 ⟨rfl, rfl⟩
      exact ⟨rfl, Went.of H (Keeps.refl _ _)⟩
    · rw [if_neg ho, if_neg ho]
      have ho2 : D.other = false ∨ reg = 6 := by
        cases h : D.other
        · exact .inl rfl
        · exact .inr (Classical.byContradiction fun q => ho ⟨h, q⟩)
      by_cases h0 : reg = 0
      · subst h0
        have hs : size = 1 ∨ size = 2 ∨ size = 4 := by
          split at he2
          · omega
          · split at he2
            · omega
            · omega
        rw [if_pos rfl, if_pos rfl]
        have := in_0 H hr size.toNat (by omega) (ho2.resolve_right (by decide))
        rw [show ((size.toNat : Nat) : Int) = size by omega] at this
        refine this.mono ?_
        rintro e w1 ⟨rfl, H1, K⟩
        exact ⟨rfl, Went.of H1 K⟩
      · rw [if_neg h0, if_neg h0]
        have hr2 : 0 ≤ reg ∧ reg ≤ 8 := by
          split at he2
          · omega
          · omega
        by_cases h7 : reg < 7
        · rw [if_pos h7, if_pos h7]
          have := in_r (w := w) H reg.toNat (by omega) (by omega) size (ho2.imp id fun h => by omega)
          rw [show ((reg.toNat : Nat) : Int) = reg by omega] at this
          refine this.mono ?_
          rintro e w1 ⟨rfl, rfl⟩
          exact ⟨rfl, Went.of H (Keeps.refl _ _)⟩
        · rw [if_neg h7, if_neg h7]
          refine (in_s H reg (by omega) size (ho2.resolve_right (by omega))).mono ?_
          rintro e w1 ⟨rfl, H1, K⟩
          exact ⟨rfl, Went.of H1 K⟩
  · rw [if_pos he, if_pos he]
    refine (in_err reg size _ rfl (by simpa using he)).mono ?_
    rintro e w1 ⟨rfl, rfl⟩
    exact ⟨rfl, Went.of H (Keeps.refl _ _)⟩
end

theorem below_dn {B : Nat} {w a : World} (h : Below B w a) (n : Nat) : Below B w (a.drewN n) := ⟨h.os, h.tape, h.output, h.size, h.block⟩
/-- A disk all of whose blocks were made behind the world w0. -/
def At (w0 w : World) (b : Nat) (D : Dk) : Prop :=
  ∃ ds lv, IdeIn 113 w b ds lv D ∧ D.room ∧ (∀ k, Held b ds lv k → w0.heap.size ≤ k) ∧ Below w0.heap.size w0 w
section
variable {w0 w w' : World} {b : Nat} {D : Dk}
theorem At.below (h : At w0 w b D) : Below w0.heap.size w0 w := by obtain ⟨ds, lv, H, R, N, B⟩ := h; exact B
theorem At.ok (h : At w0 w b D) : D.ok := by obtain ⟨ds, lv, H, R, N, B⟩ := h; exact H.ok
theorem At.room (h : At w0 w b D) : D.room := by obtain ⟨ds, lv, H, R, N, B⟩ := h; exact R
theorem At.move (h : At w0 w b D) (hb : Below w.heap.size w w') : At w0 w' b D := by
  obtain ⟨ds, lv, H, R, N, B⟩ := h
  exact ⟨ds, lv, H.keeps (Keeps.ofBelow (S := fun _ => False) hb) (fun _ _ h => h), R, N, Keeps.toBelow B (Keeps.ofBelow (S := fun _ => False) hb) B.size (fun _ h => h.elim)⟩
theorem At.drewN (h : At w0 w b D) (n : Nat) : At w0 (w.drewN n) b D := by
  obtain ⟨ds, lv, H, R, N, B⟩ := h
  exact ⟨ds, lv, H.drewN n, R, N, below_dn B n⟩
/-- A block that is the law's own and no disk's may be turned. -/
theorem At.set (h : At w0 w b D) {g : Nat} (hg : w0.heap.size ≤ g) (hn : ∀ ds lv, IdeIn 113 w b ds lv D → (∀ k, Held b ds lv k → w0.heap.size ≤ k) → ¬ Held b ds lv g) (k : Nat) (v : Value) : At w0 (w.setCell ⟨g, k, none⟩ v) b D := by
  obtain ⟨ds, lv, H, R, N, B⟩ := h
  refine ⟨ds, lv, H.of_heap fun i hi => heap_set_other _ (fun e => hn ds lv H N ?_), R, N, B.setCell hg _⟩
  rw [← show i = g from e]; exact hi
theorem out_at (h : At w0 w b D) (reg size : Int) (v : Nat) (hv : v < 4294967296) (hL : D.log.length + 4 < 17592186044416) :
    Calls Try.prog 27 #[.pointer (some ⟨b, 0, none⟩), .int .i64 reg, .int .i64 size, .int .u32 v] w fun e w' => e = .returned (.int .i64 (callErr reg size)) ∧ At w0 w' b (D.out reg size v) := by
  obtain ⟨ds, lv, H, R, N, B⟩ := h
  refine (out_any H R reg size v hv hL).mono ?_
  rintro e w1 ⟨rfl, lv1, H1, K, N1⟩
  refine ⟨rfl, ds, lv1, H1, Dk.room_out R reg size v, fun k hk => ?_, Keeps.toBelow B K B.size fun i hi => N i hi⟩
  rcases hk with hk | hk | hk
  · exact N k (.inl hk)
  · exact N k (.inr (.inl hk))
  · rcases N1 k hk with h | h
    · exact N k (.inr (.inr h))
    · exact Nat.le_trans B.size h
theorem in_at (h : At w0 w b D) (reg size : Int) :
    Calls Try.prog 29 #[.pointer (some ⟨b, 0, none⟩), .int .i64 reg, .int .i64 size] w fun e w' => e = .returned (.tuple #[.int .u32 (D.inV reg size : Nat), .int .i64 (callErr reg size)]) ∧ At w0 w' b (D.inS reg size) := by
  obtain ⟨ds, lv, H, R, N, B⟩ := h
  refine (in_any H R reg size).mono ?_
  rintro e w1 ⟨rfl, lv1, H1, K, N1⟩
  refine ⟨rfl, ds, lv1, H1, Dk.room_inS R reg size, fun k hk => ?_, Keeps.toBelow B K B.size fun i hi => N i hi⟩
  rcases hk with hk | hk | hk
  · exact N k (.inl hk)
  · exact N k (.inr (.inl hk))
  · rcases N1 k hk with h | h
    · exact N k (.inr (.inr h))
    · exact Nat.le_trans B.size h
theorem new_at {v : Value} {n : Nat} {d : Nat → Nat} (H : Reads w v (n * 512) d) (hn : n ≤ 64) (hd : ∀ i, d i < 256) :
    Calls Try.prog 34 #[v] w fun e w' => ∃ b, e = .returned (.tuple #[.pointer (some ⟨b, 0, none⟩), .int .i64 0]) ∧ At w w' b (Dk.new n d) := by
  refine (new_yes H hn hd).mono ?_
  rintro e w1 ⟨b, ds, rfl, H1, h1, h2, h3⟩
  refine ⟨b, rfl, ds, _, H1, room_fresh _, fun k hk => ?_, h3⟩
  rcases hk with rfl | hk | hk
  · exact h1
  · exact h2 k hk
  · cases hk
theorem disk_at (h : At w0 w b D) :
    Calls Try.prog 33 #[.pointer (some ⟨b, 0, none⟩)] w fun e w' => ∃ v, e = .returned v ∧ w'.ownsRow w.heap.size 5 1 v (D.n * 512) (bytesL (D.n * 512) D.d) ∧ At w0 w' b D ∧ Below w.heap.size w w' := by
  have h2 := h
  obtain ⟨ds, lv, H, R, N, B⟩ := h
  refine (disk_in H).mono ?_
  rintro e w1 ⟨v, rfl, h1, hb⟩
  exact ⟨v, rfl, h1, h2.move hb, hb⟩
end
end Go.Proofs.Ytojmpdddfnkffaa.Ide

/- ide's laws: a command at a place; the calls at the head of all statements. -/
namespace Go.Proofs.Ytojmpdddfnkffaa.Ide
open Go.RowKit
set_option linter.unusedVariables false

theorem out_log0 (S : Dk) (reg size : Int) (v : Nat) (h0 : reg ≠ 0) : (S.out reg size v).log.length ≤ S.log.length := by
  by_cases h : callErr reg size = 0
  · have := out_log S reg size v h; rw [if_neg h0] at this; exact this
  · unfold Dk.out; rw [if_pos h]; exact Nat.le_refl _
def Dk.at1 (S : Dk) (p : Nat) : Dk := ((((S.out 6 1 64).out 5 1 0).out 4 1 0).out 3 1 p).out 2 1 1
def Dk.sect (S : Dk) (c p : Nat) : Dk := (S.at1 p).out 7 1 c
theorem sect_log (S : Dk) (c p : Nat) : (S.sect c p).log.length ≤ S.log.length := by
  unfold Dk.sect Dk.at1
  exact Nat.le_trans (out_log0 _ _ _ _ (by decide)) (Nat.le_trans (out_log0 _ _ _ _ (by decide)) (Nat.le_trans (out_log0 _ _ _ _ (by decide)) (Nat.le_trans (out_log0 _ _ _ _ (by decide)) (Nat.le_trans (out_log0 _ _ _ _ (by decide)) (out_log0 _ _ _ _ (by decide))))))
def aw0 : Dk := Dk.new 2 (dsk 0)
def aw1 : Dk := ((aw0.out 6 1 64).out 3 1 1).out 7 1 32
set_option maxRecDepth 100000 in
theorem aw_a : aw1.inV 7 1 = 88 := by kernel_rfl
set_option maxRecDepth 100000 in
theorem aw_b : (aw1.inS 7 1).inV 0 2 = 8737 := by kernel_rfl
set_option maxRecDepth 100000 in
theorem aw_c : ((aw1.inS 7 1).inS 0 2).log.length = 0 := by kernel_rfl
theorem aw_l (S : Dk) (h : S.log.length + 4 < 17592186044416) (reg size : Int) (v : Nat) (h0 : reg ≠ 0) : (S.out reg size v).log.length + 4 < 17592186044416 := by
  have := out_log0 S reg size v h0; omega
end Go.Proofs.Ytojmpdddfnkffaa.Ide

