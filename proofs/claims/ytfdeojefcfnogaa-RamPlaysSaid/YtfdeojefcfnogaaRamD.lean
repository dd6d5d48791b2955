/- ram: Read, Write. -/
import Derived.Test.YtfdeojefcfnogaaRamC
namespace Go.Proofs.Ytfdeojefcfnogaa
open Go.RowKit Go.MapKept
set_option linter.unusedVariables false

theorem Ram.lt {w : World} {b : Nat} {S : Nat → Prop} {R : RS} (H : Ram w b S R) {k : Nat} (h : S k) : k < w.heap.size := by
  obtain ⟨bp, bo, bw, bn, pg, I, hS⟩ := H
  exact Owned.lt I ((hS k).1 h)
theorem Ram.own {w : World} {b : Nat} {S : Nat → Prop} {R : RS} (H : Ram w b S R) : S b := by
  obtain ⟨bp, bo, bw, bn, pg, I, hS⟩ := H
  exact (hS b).2 (.inl rfl)
theorem Ram.isok {w : World} {b : Nat} {S : Nat → Prop} {R : RS} (H : Ram w b S R) : R.ok := by
  obtain ⟨bp, bo, bw, bn, pg, I, hS⟩ := H
  exact I.ok
theorem Ram.keeps {w w' : World} {b : Nat} {S T : Nat → Prop} {R : RS} (H : Ram w b S R) (hk : Keeps T w w') (hn : ∀ k, S k → ¬ T k) : Ram w' b S R := by
  obtain ⟨bp, bo, bw, bn, pg, I, hS⟩ := H
  exact ⟨bp, bo, bw, bn, pg, I.keeps hk fun k hk' => hn k ((hS k).2 hk'), hS⟩
theorem Ram.below {w w' : World} {b : Nat} {S : Nat → Prop} {R : RS} (H : Ram w b S R) (hb : Below w.heap.size w w') : Ram w' b S R :=
  H.keeps (Keeps.ofBelow (S := fun _ => False) hb) fun _ _ h => h
theorem Ram.drewN {w : World} {b : Nat} {S : Nat → Prop} {R : RS} (H : Ram w b S R) (n : Nat) : Ram (w.drewN n) b S R := H.keeps ((Keeps.refl (fun _ => False) _).drewN n) fun _ _ h => h
theorem Ram.alloc {w : World} {b : Nat} {S : Nat → Prop} {R : RS} (H : Ram w b S R) (o : Obj) : Ram (w.alloc o) b S R := H.keeps ((Keeps.refl (fun _ => False) _).alloc o) fun _ _ h => h

set_option maxHeartbeats 1000000 in
theorem put_out {w : World} {b bp bo bw bn : Nat} {pg : Nat → Option Nat} {R : RS} (H : RamIn w b bp bo bw bn pg R) (a v : Nat) (ha : a < 4294967296) (hs : ¬ R.place a < R.size) :
    Calls Try.prog 25 #[.pointer (some ⟨b, 0, .none⟩), .int .u32 a, .int .u8 v] w fun e w' => e = .returned (.tuple #[]) ∧ ∃ n, w' = w.drewN n := by
  have hpa := place_any H a ha
  have HP := Lib.hid hpa
  clear hpa
  have hd : decide (R.place a < R.size) = false := decide_eq_false hs
  have HD := Lib.hid hd
  clear hd
  go_enter Try.func25, Try.ntmps25
  go_wp2_with fail
  refine HP.out.mono ?_
  rintro e w1 ⟨rfl, n, rfl⟩
  rw [HD.out]
  go_wp2_with fail
  go_returns
  exact ⟨rfl, n, rfl⟩
theorem put_any {w : World} {b : Nat} {S : Nat → Prop} {R : RS} (H : Ram w b S R) (a v : Nat) (ha : a < 4294967296) (hv : v < 256) :
    Calls Try.prog 25 #[.pointer (some ⟨b, 0, .none⟩), .int .u32 a, .int .u8 v] w fun e w' => e = .returned (.tuple #[]) ∧ ∃ S', Ram w' b S' (R.put a v) ∧ Moves S S' w w' := by
  obtain ⟨bp, bo, bw, bn, pg, I, hS⟩ := H
  have mono : ∀ {T : Nat → Prop} {w' : World}, Keeps (Owned b bp bo bw bn pg) w w' → Keeps S w w' := fun h => h.mono fun k _ hk => (hS k).2 hk
  by_cases hs : R.place a < R.size
  · rcases hq : pg (R.place a / 4096) with _ | q
    · refine (put_new I a v ha hv hs hq).mono ?_
      rintro e w' ⟨rfl, I', K⟩
      refine ⟨rfl, _, ⟨bp, bo, bw, bn, _, I', fun k => Iff.rfl⟩, mono (T := S) K, fun k hk => ?_⟩
      rcases Owned.newPage _ hk with h | h
      · exact .inl ((hS k).2 h)
      · exact .inr (Nat.le_of_eq h.symm)
    · refine (put_old I a v ha hv hs q hq).mono ?_
      rintro e w' ⟨rfl, I', K⟩
      exact ⟨rfl, S, ⟨bp, bo, bw, bn, pg, I', hS⟩, mono (T := S) K, fun k hk => .inl hk⟩
  · refine (put_out I a v ha hs).mono ?_
    rintro e w' ⟨rfl, n, rfl⟩
    refine ⟨rfl, S, ⟨bp, bo, bw, bn, pg, ?_, hS⟩, Moves.drewN S w n⟩
    have : R.put a v = R := by unfold RS.put; rw [if_neg hs]
    rw [this]; exact I.drewN n
theorem put_anyv {w : World} {b : Nat} {S : Nat → Prop} {R : RS} (H : Ram w b S R) (a v : Nat) (x y : Int) (hx : x = (a : Int)) (hy : y = (v : Int)) (ha : a < 4294967296) (hv : v < 256) :
    Calls Try.prog 25 #[.pointer (some ⟨b, 0, .none⟩), .int .u32 x, .int .u8 y] w fun e w' => e = .returned (.tuple #[]) ∧ ∃ S', Ram w' b S' (R.put a v) ∧ Moves S S' w w' := by
  rw [hx, hy]; exact put_any H a v ha hv
theorem get_anyv {w : World} {b : Nat} {S : Nat → Prop} {R : RS} (H : Ram w b S R) (a : Nat) (x : Int) (hx : x = (a : Int)) (ha : a < 4294967296) :
    Calls Try.prog 26 #[.pointer (some ⟨b, 0, .none⟩), .int .u32 x] w fun e w' => e = .returned (.int .u8 (R.get a : Nat)) ∧ ∃ n, w' = w.drewN n := by
  obtain ⟨bp, bo, bw, bn, pg, I, hS⟩ := H
  rw [hx]; exact get_any I a ha
theorem place_anyv {w : World} {b : Nat} {S : Nat → Prop} {R : RS} (H : Ram w b S R) (a : Nat) (x : Int) (hx : x = (a : Int)) (ha : a < 4294967296) :
    Calls Try.prog 24 #[.pointer (some ⟨b, 0, .none⟩), .int .u32 x] w fun e w' => e = .returned (.tuple #[.int .u32 (R.place a : Nat), .bool (decide (R.place a < R.size))]) ∧ ∃ n, w' = w.drewN n := by
  obtain ⟨bp, bo, bw, bn, pg, I, hS⟩ := H
  rw [hx]; exact place_any I a ha

/-- The i-th address behind a. -/
def at32 (a i : Nat) : Nat := (a + i) % 4294967296
theorem at32_lt (a i : Nat) : at32 a i < 4294967296 := Nat.mod_lt _ (by decide)
/-- The lowest k bytes from a on. -/
def RS.read (R : RS) (a : Nat) : Nat → Nat
  | 0 => 0
  | k + 1 => R.read a k + R.get (at32 a k) * 256 ^ k
theorem RS.read_lt {R : RS} (h : R.ok) (a k : Nat) : R.read a k < 256 ^ k := by
  induction k with
  | zero => simp [RS.read]
  | succ k ih =>
    have h1 := RS.get_lt h (at32 a k)
    rw [RS.read, Nat.pow_succ]
    have h2 : R.get (at32 a k) * 256 ^ k ≤ 255 * 256 ^ k := Nat.mul_le_mul_right _ (by omega)
    omega
/-- The lowest k bytes of v are written from a on. -/
def RS.write (R : RS) (a v : Nat) : Nat → RS
  | 0 => R
  | k + 1 => (R.write a v k).wr (at32 a k) (v / 256 ^ k % 256)
theorem RS.write_ok {R : RS} (h : R.ok) (a v k : Nat) : (R.write a v k).ok := by
  induction k with
  | zero => exact h
  | succ k ih => exact RS.wr_ok ih _ _ (Nat.mod_lt _ (by decide))
def goodSize (s : Int) : Prop := s = 1 ∨ s = 2 ∨ s = 4

theorem or_shift (v b k : Nat) (hv : v < 256 ^ k) (hb : b < 256) (hk : k < 4) : bits .or .u32 (v : Int) ((b : Int) * 2 ^ (8 * k) % 4294967296) = ((v + b * 256 ^ k : Nat) : Int) := by
  have hp : (256 : Nat) ^ k = 2 ^ (8 * k) := by rw [Nat.pow_mul]
  have hle : b * 256 ^ k ≤ 255 * 256 ^ k := Nat.mul_le_mul_right _ (by omega)
  have h3 : 256 ^ k ≤ 256 ^ 3 := Nat.pow_le_pow_right (by decide) (by omega)
  have e : ((b : Int) * 2 ^ (8 * k) % 4294967296) = ((b * 256 ^ k : Nat) : Int) := by
    rw [hp]
    rw [hp] at hle h3
    rw [Int.emod_eq_of_lt]
    · simp
    · exact Int.mul_nonneg (by omega) (Int.pow_nonneg (by decide))
    · have : ((b : Int) * 2 ^ (8 * k)) = ((b * 2 ^ (8 * k) : Nat) : Int) := by simp
      rw [this]; omega
  rw [e, u32_or_nat _ _ (by omega) (by omega), Nat.or_comm]
  congr 1
  rw [Nat.add_comm, hp]
  rw [hp] at hv
  exact nat_join (8 * k) _ _ (by simp) hv

set_option maxHeartbeats 1000000 in
theorem read_1 {w : World} {b : Nat} {S : Nat → Prop} {R : RS} (H : Ram w b S R) (a : Nat) (ha : a < 4294967296) :
    Calls Try.prog 12 #[.pointer (some ⟨b, 0, .none⟩), .int .u32 a, .int .i64 1] w fun e w' => e = .returned (.tuple #[.int .u32 (R.read a 1 : Nat), .int .i64 0]) ∧ ∃ n, w' = w.drewN n := by
  go_enter Try.func12, Try.ntmps12
  go_wp2_with fail
  go_loopw [8, 26] (fun v i wr => ∃ k : Nat, k ≤ 1 ∧ i = .int .u32 k ∧ v = .int .u32 (R.read a k : Nat) ∧ ∃ n, wr = w.drewN n) (fun _ i _ => 1 - (intOf i).toNat)
  case atStart => exact ⟨0, by omega, rfl, rfl, 0, rfl⟩
  case round =>
    obtain ⟨k, hk, rfl, rfl, n, rfl⟩ := hrel
    by_cases hlt : k < 1
    · go_wp2_with fail
      refine (get_anyv (H.drewN n) (at32 a k) _ (by unfold at32; omega) (at32_lt _ _)).mono ?_
      rintro e w1 ⟨rfl, n2, rfl⟩
      have hb := RS.get_lt H.isok (at32 a k)
      have hr := RS.read_lt H.isok a k
      have hr2 : 256 ^ k ≤ 256 ^ 3 := Nat.pow_le_pow_right (by decide) (by omega)
      have HR := Lib.hid (show R.read a (k + 1) = R.read a k + R.get (at32 a k) * 256 ^ k from rfl)
      have HO := Lib.hid (or_shift (R.read a k) (R.get (at32 a k)) k hr hb (by omega))
      generalize R.read a k = x at *
      generalize R.get (at32 a k) = y at *
      go_wp2_with fail
      go_roundw
      case rel => exact ⟨k + 1, by omega, by go_num, by rw [HR.out, HO.out], _, rfl⟩
      case measure => (simp [intOf]) <;> omega
    · have hk2 : k = 1 := by omega
      have HK := Lib.hid hk2
      clear hk2
      go_wp2_with fail
      go_ret2
      exact ⟨by rw [HK.out]; rfl, n, rfl⟩
set_option maxHeartbeats 1000000 in
theorem read_2 {w : World} {b : Nat} {S : Nat → Prop} {R : RS} (H : Ram w b S R) (a : Nat) (ha : a < 4294967296) :
    Calls Try.prog 12 #[.pointer (some ⟨b, 0, .none⟩), .int .u32 a, .int .i64 2] w fun e w' => e = .returned (.tuple #[.int .u32 (R.read a 2 : Nat), .int .i64 0]) ∧ ∃ n, w' = w.drewN n := by
  go_enter Try.func12, Try.ntmps12
  go_wp2_with fail
  go_loopw [8, 26] (fun v i wr => ∃ k : Nat, k ≤ 2 ∧ i = .int .u32 k ∧ v = .int .u32 (R.read a k : Nat) ∧ ∃ n, wr = w.drewN n) (fun _ i _ => 2 - (intOf i).toNat)
  case atStart => exact ⟨0, by omega, rfl, rfl, 0, rfl⟩
  case round =>
    obtain ⟨k, hk, rfl, rfl, n, rfl⟩ := hrel
    by_cases hlt : k < 2
    · go_wp2_with fail
      refine (get_anyv (H.drewN n) (at32 a k) _ (by unfold at32; omega) (at32_lt _ _)).mono ?_
      rintro e w1 ⟨rfl, n2, rfl⟩
      have hb := RS.get_lt H.isok (at32 a k)
      have hr := RS.read_lt H.isok a k
      have hr2 : 256 ^ k ≤ 256 ^ 3 := Nat.pow_le_pow_right (by decide) (by omega)
      have HR := Lib.hid (show R.read a (k + 1) = R.read a k + R.get (at32 a k) * 256 ^ k from rfl)
      have HO := Lib.hid (or_shift (R.read a k) (R.get (at32 a k)) k hr hb (by omega))
      generalize R.read a k = x at *
      generalize R.get (at32 a k) = y at *
      go_wp2_with fail
      go_roundw
      case rel => exact ⟨k + 1, by omega, by go_num, by rw [HR.out, HO.out], _, rfl⟩
      case measure => (simp [intOf]) <;> omega
    · have hk2 : k = 2 := by omega
      have HK := Lib.hid hk2
      clear hk2
      go_wp2_with fail
      go_ret2
      exact ⟨by rw [HK.out]; rfl, n, rfl⟩
set_option maxHeartbeats 1000000 in
theorem read_4 {w : World} {b : Nat} {S : Nat → Prop} {R : RS} (H : Ram w b S R) (a : Nat) (ha : a < 4294967296) :
    Calls Try.prog 12 #[.pointer (some ⟨b, 0, .none⟩), .int .u32 a, .int .i64 4] w fun e w' => e = .returned (.tuple #[.int .u32 (R.read a 4 : Nat), .int .i64 0]) ∧ ∃ n, w' = w.drewN n := by
  go_enter Try.func12, Try.ntmps12
  go_wp2_with fail
  go_loopw [8, 26] (fun v i wr => ∃ k : Nat, k ≤ 4 ∧ i = .int .u32 k ∧ v = .int .u32 (R.read a k : Nat) ∧ ∃ n, wr = w.drewN n) (fun _ i _ => 4 - (intOf i).toNat)
  case atStart => exact ⟨0, by omega, rfl, rfl, 0, rfl⟩
  case round =>
    obtain ⟨k, hk, rfl, rfl, n, rfl⟩ := hrel
    by_cases hlt : k < 4
    · go_wp2_with fail
      refine (get_anyv (H.drewN n) (at32 a k) _ (by unfold at32; omega) (at32_lt _ _)).mono ?_
      rintro e w1 ⟨rfl, n2, rfl⟩
      have hb := RS.get_lt H.isok (at32 a k)
      have hr := RS.read_lt H.isok a k
      have hr2 : 256 ^ k ≤ 256 ^ 3 := Nat.pow_le_pow_right (by decide) (by omega)
      have HR := Lib.hid (show R.read a (k + 1) = R.read a k + R.get (at32 a k) * 256 ^ k from rfl)
      have HO := Lib.hid (or_shift (R.read a k) (R.get (at32 a k)) k hr hb (by omega))
      generalize R.read a k = x at *
      generalize R.get (at32 a k) = y at *
      go_wp2_with fail
      go_roundw
      case rel => exact ⟨k + 1, by omega, by go_num, by rw [HR.out, HO.out], _, rfl⟩
      case measure => (simp [intOf]) <;> omega
    · have hk2 : k = 4 := by omega
      have HK := Lib.hid hk2
      clear hk2
      go_wp2_with fail
      go_ret2
      exact ⟨by rw [HK.out]; rfl, n, rfl⟩
theorem read_any {w : World} {b : Nat} {S : Nat → Prop} {R : RS} (H : Ram w b S R) (a : Nat) (ha : a < 4294967296) (s : Nat) (hs : s = 1 ∨ s = 2 ∨ s = 4) :
    Calls Try.prog 12 #[.pointer (some ⟨b, 0, .none⟩), .int .u32 a, .int .i64 (s : Nat)] w fun e w' => e = .returned (.tuple #[.int .u32 (R.read a s : Nat), .int .i64 0]) ∧ ∃ n, w' = w.drewN n := by
  rcases hs with rfl | rfl | rfl
  · exact read_1 H a ha
  · exact read_2 H a ha
  · exact read_4 H a ha
set_option maxHeartbeats 1000000 in
theorem read_bad {w : World} {b : Nat} (a s : Int) (h1 : s ≠ 1) (h2 : s ≠ 2) (h4 : s ≠ 4) :
    Calls Try.prog 12 #[.pointer (some ⟨b, 0, .none⟩), .int .u32 a, .int .i64 s] w fun e w' => e = .returned (.tuple #[.int .u32 0, .int .i64 2]) ∧ w = w' := by
  have g1 : (s != 1) = true := by simpa using h1
  have g2 : (s != 2) = true := by simpa using h2
  have g4 : (s != 4) = true := by simpa using h4
  go_enter Try.func12, Try.ntmps12
  go_wp2_with fail
  go_ret2
  exact ⟨rfl, rfl⟩
set_option maxHeartbeats 1000000 in
theorem read_nil {w : World} (a s : Int) :
    Calls Try.prog 12 #[.pointer .none, .int .u32 a, .int .i64 s] w fun e w' => e = .returned (.tuple #[.int .u32 0, .int .i64 1]) ∧ w = w' := by
  go_enter Try.func12, Try.ntmps12
  go_wp2_with fail
  go_ret2
  exact ⟨rfl, rfl⟩
theorem shr_byte (v k : Nat) : ((v : Int) / 2 ^ (8 * k) % 256) = ((v / 256 ^ k % 256 : Nat) : Int) := by
  have hp : (256 : Nat) ^ k = 2 ^ (8 * k) := by rw [Nat.pow_mul]
  rw [hp]; simp
theorem wr_no (R : RS) (a v : Nat) (h : ¬ (R.place a < R.size ∧ R.only (R.place a / 4096) = false)) : R.wr a v = R := by unfold RS.wr; rw [if_neg h]
theorem wr_yes (R : RS) (a v : Nat) (h1 : R.place a < R.size) (h2 : R.only (R.place a / 4096) = false) : R.wr a v = R.put a v := by unfold RS.wr RS.put; rw [if_pos ⟨h1, h2⟩, if_pos h1]

set_option maxHeartbeats 2000000 in
theorem write_1 {w : World} {b : Nat} {S : Nat → Prop} {R : RS} (H : Ram w b S R) (a v : Nat) (ha : a < 4294967296) (hv : v < 4294967296) :
    Calls Try.prog 10 #[.pointer (some ⟨b, 0, .none⟩), .int .u32 a, .int .i64 1, .int .u32 v] w fun e w' => e = .returned (.int .i64 0) ∧ ∃ S', Ram w' b S' (R.write a v 1) ∧ Moves S S' w w' := by
  go_enter Try.func10, Try.ntmps10
  go_wp2_with fail
  go_loopw [28] (fun i wr => ∃ k : Nat, k ≤ 1 ∧ i = .int .u32 k ∧ ∃ S', Ram wr b S' (R.write a v k) ∧ Moves S S' w wr) (fun i _ => 1 - (intOf i).toNat)
  case atStart => exact ⟨0, by omega, rfl, S, H, Moves.refl S w⟩
  case round =>
    obtain ⟨k, hk, rfl, S', H', M'⟩ := hrel
    by_cases hlt : k < 1
    · have HW := Lib.hid (show R.write a v (k + 1) = (R.write a v k).wr (at32 a k) (v / 256 ^ k % 256) from rfl)
      have HN := Lib.hid (wr_no (R.write a v k) (at32 a k) (v / 256 ^ k % 256))
      have HY := Lib.hid (wr_yes (R.write a v k) (at32 a k) (v / 256 ^ k % 256))
      have hpl := RS.place_le (R.write a v k) (at32 a k)
      have hal := at32_lt a k
      have HB := Lib.hid (shr_byte v k)
      go_wp2_with fail
      refine (place_anyv H' (at32 a k) _ (by unfold at32; omega) (at32_lt _ _)).mono ?_
      rintro e w1 ⟨rfl, n2, rfl⟩
      have H2 := H'.drewN n2
      have M2 := M'.trans (Moves.drewN S' _ n2)
      obtain ⟨bp, bo, bw, bn, pg, I, hS⟩ := H2
      obtain ⟨-, -, c2, -, -, -, -, klt⟩ := I.facts
      have mo := I.mo
      have H2 : Ram _ b S' (R.write a v k) := ⟨bp, bo, bw, bn, pg, I, hS⟩
      clear I hS H' M'
      generalize (R.write a v k).place (at32 a k) = p at *
      by_cases hs : p < (R.write a v k).size
      · have hd : decide (p < (R.write a v k).size) = true := decide_eq_true hs
        rw [hd]
        clear hd
        have hx : ((p : Int) / 4096) = ((p / 4096 : Nat) : Int) := by omega
        cases ho : (R.write a v k).only (p / 4096)
        · have hl := MarkAt.look mo ho _ hx
          have HO := Lib.hid ho
          clear hx ho mo
          go_wp2_with fail
          refine (put_anyv H2 (at32 a k) (v / 256 ^ k % 256) _ _ (by unfold at32; omega) HB.out (at32_lt _ _) (Nat.mod_lt _ (by decide))).mono ?_
          rintro e w1 ⟨rfl, S3, H3, M3⟩
          rw [← HY.out hs HO.out, ← HW.out] at H3
          have M4 := M2.trans M3
          go_wp2_with fail
          go_roundw
          case rel => exact ⟨k + 1, by omega, by go_num, S3, H3, M4⟩
          case measure => (simp [intOf]) <;> omega
        · have hl := MarkAt.look mo ho _ hx
          have HO := Lib.hid ho
          clear hx ho mo
          have H3 : Ram (wr.drewN n2) b S' (R.write a v (k + 1)) := by rw [HW.out, HN.out fun h => by have := HO.out; rw [this] at h; cases h.2]; exact H2
          go_wp2_with fail
          go_roundw
          case rel => exact ⟨k + 1, by omega, by go_num, S', H3, M2⟩
          case measure => (simp [intOf]) <;> omega
      · have hd : decide (p < (R.write a v k).size) = false := decide_eq_false hs
        rw [hd]
        clear hd
        have H3 : Ram (wr.drewN n2) b S' (R.write a v (k + 1)) := by rw [HW.out, HN.out fun h => hs h.1]; exact H2
        go_wp2_with fail
        go_roundw
        case rel => exact ⟨k + 1, by omega, by go_num, S', H3, M2⟩
        case measure => (simp [intOf]) <;> omega
    · have hk2 : k = 1 := by omega
      have HK := Lib.hid hk2
      clear hk2
      go_wp2_with fail
      go_returns
      exact ⟨rfl, S', by rw [← HK.out]; exact H', M'⟩
set_option maxHeartbeats 2000000 in
theorem write_2 {w : World} {b : Nat} {S : Nat → Prop} {R : RS} (H : Ram w b S R) (a v : Nat) (ha : a < 4294967296) (hv : v < 4294967296) :
    Calls Try.prog 10 #[.pointer (some ⟨b, 0, .none⟩), .int .u32 a, .int .i64 2, .int .u32 v] w fun e w' => e = .returned (.int .i64 0) ∧ ∃ S', Ram w' b S' (R.write a v 2) ∧ Moves S S' w w' := by
  go_enter Try.func10, Try.ntmps10
  go_wp2_with fail
  go_loopw [28] (fun i wr => ∃ k : Nat, k ≤ 2 ∧ i = .int .u32 k ∧ ∃ S', Ram wr b S' (R.write a v k) ∧ Moves S S' w wr) (fun i _ => 2 - (intOf i).toNat)
  case atStart => exact ⟨0, by omega, rfl, S, H, Moves.refl S w⟩
  case round =>
    obtain ⟨k, hk, rfl, S', H', M'⟩ := hrel
    by_cases hlt : k < 2
    · have HW := Lib.hid (show R.write a v (k + 1) = (R.write a v k).wr (at32 a k) (v / 256 ^ k % 256) from rfl)
      have HN := Lib.hid (wr_no (R.write a v k) (at32 a k) (v / 256 ^ k % 256))
      have HY := Lib.hid (wr_yes (R.write a v k) (at32 a k) (v / 256 ^ k % 256))
      have hpl := RS.place_le (R.write a v k) (at32 a k)
      have hal := at32_lt a k
      have HB := Lib.hid (shr_byte v k)
      go_wp2_with fail
      refine (place_anyv H' (at32 a k) _ (by unfold at32; omega) (at32_lt _ _)).mono ?_
      rintro e w1 ⟨rfl, n2, rfl⟩
      have H2 := H'.drewN n2
      have M2 := M'.trans (Moves.drewN S' _ n2)
      obtain ⟨bp, bo, bw, bn, pg, I, hS⟩ := H2
      obtain ⟨-, -, c2, -, -, -, -, klt⟩ := I.facts
      have mo := I.mo
      have H2 : Ram _ b S' (R.write a v k) := ⟨bp, bo, bw, bn, pg, I, hS⟩
      clear I hS H' M'
      generalize (R.write a v k).place (at32 a k) = p at *
      by_cases hs : p < (R.write a v k).size
      · have hd : decide (p < (R.write a v k).size) = true := decide_eq_true hs
        rw [hd]
        clear hd
        have hx : ((p : Int) / 4096) = ((p / 4096 : Nat) : Int) := by omega
        cases ho : (R.write a v k).only (p / 4096)
        · have hl := MarkAt.look mo ho _ hx
          have HO := Lib.hid ho
          clear hx ho mo
          go_wp2_with fail
          refine (put_anyv H2 (at32 a k) (v / 256 ^ k % 256) _ _ (by unfold at32; omega) HB.out (at32_lt _ _) (Nat.mod_lt _ (by decide))).mono ?_
          rintro e w1 ⟨rfl, S3, H3, M3⟩
          rw [← HY.out hs HO.out, ← HW.out] at H3
          have M4 := M2.trans M3
          go_wp2_with fail
          go_roundw
          case rel => exact ⟨k + 1, by omega, by go_num, S3, H3, M4⟩
          case measure => (simp [intOf]) <;> omega
        · have hl := MarkAt.look mo ho _ hx
          have HO := Lib.hid ho
          clear hx ho mo
          have H3 : Ram (wr.drewN n2) b S' (R.write a v (k + 1)) := by rw [HW.out, HN.out fun h => by have := HO.out; rw [this] at h; cases h.2]; exact H2
          go_wp2_with fail
          go_roundw
          case rel => exact ⟨k + 1, by omega, by go_num, S', H3, M2⟩
          case measure => (simp [intOf]) <;> omega
      · have hd : decide (p < (R.write a v k).size) = false := decide_eq_false hs
        rw [hd]
        clear hd
        have H3 : Ram (wr.drewN n2) b S' (R.write a v (k + 1)) := by rw [HW.out, HN.out fun h => hs h.1]; exact H2
        go_wp2_with fail
        go_roundw
        case rel => exact ⟨k + 1, by omega, by go_num, S', H3, M2⟩
        case measure => (simp [intOf]) <;> omega
    · have hk2 : k = 2 := by omega
      have HK := Lib.hid hk2
      clear hk2
      go_wp2_with fail
      go_returns
      exact ⟨rfl, S', by rw [← HK.out]; exact H', M'⟩
set_option maxHeartbeats 2000000 in
theorem write_4 {w : World} {b : Nat} {S : Nat → Prop} {R : RS} (H : Ram w b S R) (a v : Nat) (ha : a < 4294967296) (hv : v < 4294967296) :
    Calls Try.prog 10 #[.pointer (some ⟨b, 0, .none⟩), .int .u32 a, .int .i64 4, .int .u32 v] w fun e w' => e = .returned (.int .i64 0) ∧ ∃ S', Ram w' b S' (R.write a v 4) ∧ Moves S S' w w' := by
  go_enter Try.func10, Try.ntmps10
  go_wp2_with fail
  go_loopw [28] (fun i wr => ∃ k : Nat, k ≤ 4 ∧ i = .int .u32 k ∧ ∃ S', Ram wr b S' (R.write a v k) ∧ Moves S S' w wr) (fun i _ => 4 - (intOf i).toNat)
  case atStart => exact ⟨0, by omega, rfl, S, H, Moves.refl S w⟩
  case round =>
    obtain ⟨k, hk, rfl, S', H', M'⟩ := hrel
    by_cases hlt : k < 4
    · have HW := Lib.hid (show R.write a v (k + 1) = (R.write a v k).wr (at32 a k) (v / 256 ^ k % 256) from rfl)
      have HN := Lib.hid (wr_no (R.write a v k) (at32 a k) (v / 256 ^ k % 256))
      have HY := Lib.hid (wr_yes (R.write a v k) (at32 a k) (v / 256 ^ k % 256))
      have hpl := RS.place_le (R.write a v k) (at32 a k)
      have hal := at32_lt a k
      have HB := Lib.hid (shr_byte v k)
      go_wp2_with fail
      refine (place_anyv H' (at32 a k) _ (by unfold at32; omega) (at32_lt _ _)).mono ?_
      rintro e w1 ⟨rfl, n2, rfl⟩
      have H2 := H'.drewN n2
      have M2 := M'.trans (Moves.drewN S' _ n2)
      obtain ⟨bp, bo, bw, bn, pg, I, hS⟩ := H2
      obtain ⟨-, -, c2, -, -, -, -, klt⟩ := I.facts
      have mo := I.mo
      have H2 : Ram _ b S' (R.write a v k) := ⟨bp, bo, bw, bn, pg, I, hS⟩
      clear I hS H' M'
      generalize (R.write a v k).place (at32 a k) = p at *
      by_cases hs : p < (R.write a v k).size
      · have hd : decide (p < (R.write a v k).size) = true := decide_eq_true hs
        rw [hd]
        clear hd
        have hx : ((p : Int) / 4096) = ((p / 4096 : Nat) : Int) := by omega
        cases ho : (R.write a v k).only (p / 4096)
        · have hl := MarkAt.look mo ho _ hx
          have HO := Lib.hid ho
          clear hx ho mo
          go_wp2_with fail
          refine (put_anyv H2 (at32 a k) (v / 256 ^ k % 256) _ _ (by unfold at32; omega) HB.out (at32_lt _ _) (Nat.mod_lt _ (by decide))).mono ?_
          rintro e w1 ⟨rfl, S3, H3, M3⟩
          rw [← HY.out hs HO.out, ← HW.out] at H3
          have M4 := M2.trans M3
          go_wp2_with fail
          go_roundw
          case rel => exact ⟨k + 1, by omega, by go_num, S3, H3, M4⟩
          case measure => (simp [intOf]) <;> omega
        · have hl := MarkAt.look mo ho _ hx
          have HO := Lib.hid ho
          clear hx ho mo
          have H3 : Ram (wr.drewN n2) b S' (R.write a v (k + 1)) := by rw [HW.out, HN.out fun h => by have := HO.out; rw [this] at h; cases h.2]; exact H2
          go_wp2_with fail
          go_roundw
          case rel => exact ⟨k + 1, by omega, by go_num, S', H3, M2⟩
          case measure => (simp [intOf]) <;> omega
      · have hd : decide (p < (R.write a v k).size) = false := decide_eq_false hs
        rw [hd]
        clear hd
        have H3 : Ram (wr.drewN n2) b S' (R.write a v (k + 1)) := by rw [HW.out, HN.out fun h => hs h.1]; exact H2
        go_wp2_with fail
        go_roundw
        case rel => exact ⟨k + 1, by omega, by go_num, S', H3, M2⟩
        case measure => (simp [intOf]) <;> omega
    · have hk2 : k = 4 := by omega
      have HK := Lib.hid hk2
      clear hk2
      go_wp2_with fail
      go_returns
      exact ⟨rfl, S', by rw [← HK.out]; exact H', M'⟩
theorem write_any {w : World} {b : Nat} {S : Nat → Prop} {R : RS} (H : Ram w b S R) (a v : Nat) (ha : a < 4294967296) (hv : v < 4294967296) (s : Nat) (hs : s = 1 ∨ s = 2 ∨ s = 4) :
    Calls Try.prog 10 #[.pointer (some ⟨b, 0, .none⟩), .int .u32 a, .int .i64 (s : Nat), .int .u32 v] w fun e w' => e = .returned (.int .i64 0) ∧ ∃ S', Ram w' b S' (R.write a v s) ∧ Moves S S' w w' := by
  rcases hs with rfl | rfl | rfl
  · exact write_1 H a v ha hv
  · exact write_2 H a v ha hv
  · exact write_4 H a v ha hv
set_option maxHeartbeats 1000000 in
theorem write_bad {w : World} {b : Nat} (a s v : Int) (h1 : s ≠ 1) (h2 : s ≠ 2) (h4 : s ≠ 4) :
    Calls Try.prog 10 #[.pointer (some ⟨b, 0, .none⟩), .int .u32 a, .int .i64 s, .int .u32 v] w fun e w' => e = .returned (.int .i64 2) ∧ w = w' := by
  have g1 : (s != 1) = true := by simpa using h1
  have g2 : (s != 2) = true := by simpa using h2
  have g4 : (s != 4) = true := by simpa using h4
  go_enter Try.func10, Try.ntmps10
  go_wp2_with fail
  go_returns
  exact ⟨rfl, rfl⟩
set_option maxHeartbeats 1000000 in
theorem write_nil {w : World} (a s v : Int) :
    Calls Try.prog 10 #[.pointer .none, .int .u32 a, .int .i64 s, .int .u32 v] w fun e w' => e = .returned (.int .i64 1) ∧ w = w' := by
  go_enter Try.func10, Try.ntmps10
  go_wp2_with fail
  go_returns
  exact ⟨rfl, rfl⟩
end Go.Proofs.Ytfdeojefcfnogaa
