/- BusD BusE, together. -/
import Derived.Test.YtojmpdddfnkffaaMbusa
import Derived.Test.YtojmpdddfnkffaaFrame
import Derived.StillTailTactics
import Derived.Lib.BitFns
/- bus: Out. -/
namespace Go.Proofs.Ytojmpdddfnkffaa
open Go.RowKit Go.MapKept
set_option linter.unusedVariables false

def Bs.outP (B : Bs) (p v : Nat) : Bs := match dev p with
  | none => B
  | some x => B.out1 x.1 x.2 v
def Bs.outs (B : Bs) (a v : Nat) : Nat → Bs
  | 0 => B
  | k + 1 => (B.outs a v k).outP ((a + k) % 65536) (v / 256 ^ k % 256)
def Bs.wide (B : Bs) (a s v : Nat) : Bs := if a = 496 then { B with k := B.k.out 0 s v } else B.outs a v s
def Bs.out (B : Bs) (a s v : Nat) : Bs := (B.wide a s v).lines
theorem dev_bd {p : Nat} {x : Nat × Nat} (h : dev p = some x) : x.1 < 5 ∧ (x.1 = 1 → x.2 < 4) := by
  unfold dev at h
  (repeat' split at h)
  all_goals (first | (simp only [Option.some.injEq] at h; subst h; simp; omega) | (simp only [Option.some.injEq] at h; subst h; simp; done) | cases h)
theorem Bs.out1_ok {B : Bs} (h : B.ok) (k n v : Nat) (hv : v < 256) : (B.out1 k n v).ok ∧ (B.out1 k n v).t = B.t := by
  unfold Bs.out1
  split
  · exact ⟨⟨h.T, h.t⟩, rfl⟩
  · exact ⟨⟨Tm3.out_ok h.T _ _ (by omega) (by omega), h.t⟩, rfl⟩
  · exact ⟨⟨h.T, h.t⟩, rfl⟩
  · exact ⟨⟨h.T, h.t⟩, rfl⟩
  · exact ⟨⟨h.T, h.t⟩, rfl⟩
theorem Bs.outP_ok {B : Bs} (h : B.ok) (p v : Nat) (hv : v < 256) : (B.outP p v).ok ∧ (B.outP p v).t = B.t := by
  unfold Bs.outP
  split
  · exact ⟨h, rfl⟩
  · exact out1_ok h _ _ _ hv
theorem Bs.outs_ok {B : Bs} (h : B.ok) (a v : Nat) : ∀ k, (B.outs a v k).ok ∧ (B.outs a v k).t = B.t
  | 0 => ⟨h, rfl⟩
  | k + 1 => by
    have ih := outs_ok h a v k
    have q := outP_ok ih.1 ((a + k) % 65536) (v / 256 ^ k % 256) (Nat.mod_lt _ (by decide))
    exact ⟨q.1, q.2.trans ih.2⟩
theorem ut_put (U : Uart.Ut) (n : Int) (v : Nat) : (U.out n v).sent.length ≤ U.sent.length + 1 := by
  unfold Uart.Ut.out
  (repeat' split) <;> first | (show (U.sent ++ [v]).length ≤ _; simp; done) | (unfold Uart.Ut.setD; split <;> exact Nat.le_succ _) | exact Nat.le_succ _
theorem dk_put (D : Ide.Dk) (n s : Int) (v : Nat) : (D.out n s v).log.length ≤ D.log.length + 4 := by
  by_cases h : Ide.callErr n s = 0
  · have := Ide.out_log D n s v h
    split at this <;> omega
  · unfold Ide.Dk.out
    rw [if_pos h]
    exact Nat.le_add_right _ _
theorem Bs.out1_fits {B : Bs} {m : Nat} (h : B.fits m) (k n v : Nat) : (B.out1 k n v).fits (m + 4) := by
  have h1 := h.s
  have h2 := h.l
  unfold Bs.out1
  split
  · exact ⟨by show B.u.sent.length ≤ _; omega, by show B.k.log.length ≤ _; omega⟩
  · exact ⟨by show B.u.sent.length ≤ _; omega, by show B.k.log.length ≤ _; omega⟩
  · exact ⟨by have := ut_put B.u n v; show (B.u.out n v).sent.length ≤ _; omega, by show B.k.log.length ≤ _; omega⟩
  · exact ⟨by show B.u.sent.length ≤ _; omega, by have := dk_put B.k n 1 v; show (B.k.out n 1 v).log.length ≤ _; omega⟩
  · exact ⟨by show B.u.sent.length ≤ _; omega, by show B.k.log.length ≤ _; omega⟩
theorem Bs.fits.le {B : Bs} {m n : Nat} (h : B.fits m) (hn : m ≤ n) : B.fits n := ⟨Nat.le_trans h.s hn, Nat.le_trans h.l hn⟩
theorem Bs.outs_fits {B : Bs} {m : Nat} (h : B.fits m) (a v : Nat) : ∀ k, (B.outs a v k).fits (m + 4 * k)
  | 0 => h
  | k + 1 => by
    have ih := outs_fits h a v k
    show (Bs.outP _ _ _).fits _
    unfold Bs.outP
    split
    · exact ih.le (by omega)
    · exact (out1_fits ih _ _ _).le (by omega)
theorem Bs.wide_ok {B : Bs} (h : B.ok) (a s v : Nat) : (B.wide a s v).ok ∧ (B.wide a s v).t = B.t := by
  unfold Bs.wide
  split
  · exact ⟨⟨h.T, h.t⟩, rfl⟩
  · exact outs_ok h a v s
theorem Bs.wide_fits {B : Bs} {m : Nat} (h : B.fits m) (a s v : Nat) (hs : s ≤ 4) : (B.wide a s v).fits (m + 16) := by
  have h1 := h.s
  have h2 := h.l
  unfold Bs.wide
  split
  · exact ⟨by show B.u.sent.length ≤ _; omega, by have := dk_put B.k 0 s v; show (B.k.out 0 s v).log.length ≤ _; omega⟩
  · exact (outs_fits h a v s).le (by omega)
theorem Bs.lines_ok {B : Bs} (h : B.ok) : B.lines.ok := ⟨h.T, h.t⟩
theorem Bs.lines_fits {B : Bs} {m : Nat} (h : B.fits m) : B.lines.fits m := ⟨h.s, h.l⟩
theorem Bs.out_ok {B : Bs} (h : B.ok) (a s v : Nat) : (B.out a s v).ok := lines_ok (wide_ok h a s v).1
theorem Bs.out_t {B : Bs} (h : B.ok) (a s v : Nat) : (B.out a s v).t = B.t := (wide_ok h a s v).2
theorem Bs.out_fits {B : Bs} {m : Nat} (h : B.fits m) (a s v : Nat) (hs : s ≤ 4) : (B.out a s v).fits (m + 16) := lines_fits (wide_fits h a s v hs)
theorem zero_port (w : World) : (zeroValue 77).run Try.prog w = .ok (.agg #[.nilFunc, .nilFunc, .int .i64 0]) w := by kernel_rfl
section
variable {b pp pt pu pi pm mp : Nat} {B : Bs} {w0 w : World} {A0 : Nat → Prop}
theorem Hp.look (T : Hp w0 A0 w (busObs b pp pt pu pi pm mp B)) (n : Nat) (x : Int) (hx : x = (n : Int)) :
    (Instr.lookup 70 (.map (some mp)) (.int .u16 x) true).run Try.prog w = .ok (.tuple #[(prt b n).getD (.agg #[.nilFunc, .nilFunc, .int .i64 0]), .bool (prt b n).isSome]) w := by
  obtain ⟨A, a⟩ := T.get 6 rfl
  exact a.1.lookupOk (k := 32) (e := 77) (by kernel_rfl) (by kernel_rfl) (zero_port w) n x hx
theorem Hp.lookN (T : Hp w0 A0 w (busObs b pp pt pu pi pm mp B)) (n : Nat) (x : Int) (hx : x = (n : Int)) (hd : dev n = none) :
    (Instr.lookup 70 (.map (some mp)) (.int .u16 x) true).run Try.prog w = .ok (.tuple #[.agg #[.nilFunc, .nilFunc, .int .i64 0], .bool false]) w := by
  rw [T.look n x hx]; unfold prt; rw [hd]; rfl
theorem Hp.lookS (T : Hp w0 A0 w (busObs b pp pt pu pi pm mp B)) (n : Nat) (x : Int) (hx : x = (n : Int)) (k j : Nat) (hd : dev n = some (k, j)) :
    (Instr.lookup 70 (.map (some mp)) (.int .u16 x) true).run Try.prog w = .ok (.tuple #[.agg #[.func (.func (outF k)) #[.pointer (some ⟨b, 0, none⟩)] #[], .func (.func (inF k)) #[.pointer (some ⟨b, 0, none⟩)] #[], .int .i64 (j : Nat)], .bool true]) w := by
  rw [T.look n x hx]; unfold prt; rw [hd]; rfl
theorem check_any (s : Nat) (hs : s = 1 ∨ s = 2 ∨ s = 4) (w : World) : Calls Try.prog 26 #[.pointer (some ⟨b, 0, none⟩), .int .i64 (s : Nat)] w fun e w' => e = .returned (.int .i64 0) ∧ w = w' := by
  rcases hs with rfl | rfl | rfl
  all_goals
    go_enter Try.func26, Try.ntmps26
    go_wp2_with fail
    go_ret
    exact ⟨rfl, rfl⟩
theorem check_bad (s : Int) (h1 : s ≠ 1) (h2 : s ≠ 2) (h4 : s ≠ 4) (w : World) : Calls Try.prog 26 #[.pointer (some ⟨b, 0, none⟩), .int .i64 s] w fun e w' => e = .returned (.int .i64 2) ∧ w = w' := by
  have e1 : (s != 1) = true := by simpa using h1
  have e2 : (s != 2) = true := by simpa using h2
  have e4 : (s != 4) = true := by simpa using h4
  clear h1 h2 h4
  go_enter Try.func26, Try.ntmps26
  go_wp2_with fail
  go_ret
  exact ⟨rfl, rfl⟩
theorem check_nil (s : Int) (w : World) : Calls Try.prog 26 #[.pointer none, .int .i64 s] w fun e w' => e = .returned (.int .i64 1) ∧ w = w' := by
  go_enter Try.func26, Try.ntmps26
  go_wp2_with fail
  go_ret
  exact ⟨rfl, rfl⟩
set_option maxRecDepth 20000 in
set_option maxHeartbeats 4000000 in
theorem out_hp (h : B.ok) (hf : B.fits 1000000) (T : Hp w0 A0 w (busObs b pp pt pu pi pm mp B)) (a s v : Nat) (ha : a < 65536) (hs : s = 1 ∨ s = 2 ∨ s = 4) (hv : v < 4294967296) :
    Calls Try.prog 10 #[.pointer (some ⟨b, 0, none⟩), .int .u16 (a : Nat), .int .i64 (s : Nat), .int .u32 (v : Nat)] w fun e w' => e = .returned (.int .i64 0) ∧ Hp w0 A0 w' (busObs b pp pt pu pi pm mp (B.out a s v)) := by
  have HO := Lib.hid h
  have HF := Lib.hid hf
  have HS := Lib.hid hs
  have s4 : s ≤ 4 := by omega
  clear h hf hs
  go_enter Try.func10, Try.ntmps10
  go_wp2_with fail
  refine (check_any s HS.out w).mono ?_
  rintro e w1 ⟨rfl, rfl⟩
  by_cases h9 : a = 496
  · subst h9
    obtain ⟨k0, k1, k2, k3, k4, k5, k6, k7, kf, kl⟩ := bus_facts T.bus
    go_wp2_with fail
    refine (T.act 4 rfl (ide_out 0 s v hv (by have := HF.out.l; omega))).mono ?_
    rintro e w1 ⟨rfl, T1⟩
    have T2 : Hp w0 A0 w1 (busObs b pp pt pu pi pm mp (B.wide 496 s v)) := T1
    clear T1 T k0 k1 k2 k3 k4 k5 k6 k7 kf kl
    go_wp2_with fail
    go_loopw [30] (fun i wr => i = .int .i64 0 ∧ wr = w1) (fun i _ => 0)
    case atStart => exact ⟨rfl, rfl⟩
    case round =>
      obtain ⟨rfl, rfl⟩ := hrel
      go_wp2_with fail
      refine (lines_hp (Bs.wide_ok HO.out 496 s v).1 T2).mono ?_
      rintro e w2 ⟨rfl, T3⟩
      go_wp2_with fail
      go_ret
      exact ⟨rfl, T3⟩
  · have e9 : ((a : Int) == 496) = false := by simp; omega
    have H9 := Lib.hid h9
    clear h9
    have HT := Lib.hid T
    clear T
    go_wp2_with fail
    go_loopw [30] (fun i wr => ∃ k : Nat, k ≤ s ∧ i = .int .i64 k ∧ Hp w0 A0 wr (busObs b pp pt pu pi pm mp (B.outs a v k))) (fun i _ => s - (intOf i).toNat)
    case atStart => exact ⟨0, by omega, rfl, HT.out⟩
    case round =>
      rename_i wr
      obtain ⟨k, hk, rfl, T⟩ := hrel
      have OK := Lib.hid (Bs.outs_ok HO.out a v k).1
      have FI := Lib.hid (Bs.outs_fits HF.out a v k)
      have hbv : v / 256 ^ k % 256 < 256 := Nat.mod_lt _ (by decide)
      by_cases hlt : k < s
      · obtain ⟨k0, k1, k2, k3, k4, k5, k6, k7, kf, kl⟩ := bus_facts T.bus
        have hkey : IntKind.u16.wrap ((a : Int) + (k : Int)) = (((a + k) % 65536 : Nat) : Int) := by rw [IntKind.wrap_u16]; omega
        have HT1 := Lib.hid T
        cases hd : dev ((a + k) % 65536) with
        | none =>
          have lk := T.lookN ((a + k) % 65536) _ hkey hd
          have hs : (B.outs a v (k + 1)) = B.outs a v k := by show Bs.outP _ _ _ = _; unfold Bs.outP; rw [hd]
          have HS1 := Lib.hid hs
          clear hs hd hkey T hbv
          go_wp2_with fail
          go_roundw
          case rel => exact ⟨k + 1, by omega, by go_num, by rw [HS1.out]; exact HT1.out.alloc _⟩
          case measure => (simp [intOf]) <;> omega
        | some x =>
          obtain ⟨kd, j⟩ := x
          have hs : (B.outs a v (k + 1)) = (B.outs a v k).out1 kd j (v / 256 ^ k % 256) := by show Bs.outP _ _ _ = _; unfold Bs.outP; rw [hd]
          obtain ⟨hk5, hj⟩ := dev_bd hd
          simp only at hk5 hj
          have lk := T.lookS ((a + k) % 65536) _ hkey kd j hd
          clear hd hkey T
          have q2 : (0 : Int) ≤ 8 * (k : Int) := by omega
          have q3 : (8 : Int) * (k : Int) ≤ 32 := by omega
          rcases (show kd = 0 ∨ kd = 1 ∨ kd = 2 ∨ kd = 3 ∨ kd = 4 by omega) with rfl | rfl | rfl | rfl | rfl
          · have HS1 := Lib.hid hs
            have HJ := Lib.hid hj
            clear hs hk5 hj
            simp only [outF, inF] at lk
            go_upto_region 12 with (fail)
            clear lk k0 k1 k2 k3 k4 k5 k6 k7 kf kl
            have T2 := HT1.out.alloc (.cells #[.func (.func 40) #[.pointer (some ⟨b, 0, none⟩)] #[], .func (.func 41) #[.pointer (some ⟨b, 0, none⟩)] #[], .int .i64 (j : Nat)] 77)
            have hb := heap_new wr (.cells #[.func (.func 40) #[.pointer (some ⟨b, 0, none⟩)] #[], .func (.func 41) #[.pointer (some ⟨b, 0, none⟩)] #[], .int .i64 (j : Nat)] 77)
            have hl := heap_lt hb
            generalize wr.alloc (.cells #[.func (.func 40) #[.pointer (some ⟨b, 0, none⟩)] #[], .func (.func 41) #[.pointer (some ⟨b, 0, none⟩)] #[], .int .i64 (j : Nat)] 77) = W at *
            generalize wr.heap.size = g at *
            have x0 : W.cell? ⟨g, 0, none⟩ = some (.func (.func 40) #[.pointer (some ⟨b, 0, none⟩)] #[]) := by rw [cell_at hb]; rfl
            have x2 : W.cell? ⟨g, 2, none⟩ = some (.int .i64 (j : Nat)) := by rw [cell_at hb]; rfl
            have HT2 := Lib.hid T2.drew
            have hw : IntKind.i64.wrap (8 * (k : Int)) = 8 * (k : Int) := IntWalk.i64_in _ (by omega)
            clear hb T2
            go_still_tail 9, (by kernel_rfl)
            change wpList _ _ _ _ _ W.drew
            go_wp2_with fail
            rw [Ide.shr_nat v k]
            refine (outPic_hp HT2.out j (v / 256 ^ k % 256) hbv).mono ?_
            rintro e w2 ⟨rfl, T3⟩
            rw [← HS1.out] at T3
            have HT3 := Lib.hid T3
            clear T3
            go_wp2_with fail
            go_roundw
            case rel => exact ⟨k + 1, by omega, by go_num, HT3.out⟩
            case measure => (simp [intOf]) <;> omega
          · have HS1 := Lib.hid hs
            have HJ := Lib.hid hj
            clear hs hk5 hj
            simp only [outF, inF] at lk
            go_upto_region 12 with (fail)
            clear lk k0 k1 k2 k3 k4 k5 k6 k7 kf kl
            have T2 := HT1.out.alloc (.cells #[.func (.func 42) #[.pointer (some ⟨b, 0, none⟩)] #[], .func (.func 43) #[.pointer (some ⟨b, 0, none⟩)] #[], .int .i64 (j : Nat)] 77)
            have hb := heap_new wr (.cells #[.func (.func 42) #[.pointer (some ⟨b, 0, none⟩)] #[], .func (.func 43) #[.pointer (some ⟨b, 0, none⟩)] #[], .int .i64 (j : Nat)] 77)
            have hl := heap_lt hb
            generalize wr.alloc (.cells #[.func (.func 42) #[.pointer (some ⟨b, 0, none⟩)] #[], .func (.func 43) #[.pointer (some ⟨b, 0, none⟩)] #[], .int .i64 (j : Nat)] 77) = W at *
            generalize wr.heap.size = g at *
            have x0 : W.cell? ⟨g, 0, none⟩ = some (.func (.func 42) #[.pointer (some ⟨b, 0, none⟩)] #[]) := by rw [cell_at hb]; rfl
            have x2 : W.cell? ⟨g, 2, none⟩ = some (.int .i64 (j : Nat)) := by rw [cell_at hb]; rfl
            have HT2 := Lib.hid T2.drew
            have hw : IntKind.i64.wrap (8 * (k : Int)) = 8 * (k : Int) := IntWalk.i64_in _ (by omega)
            clear hb T2
            go_still_tail 9, (by kernel_rfl)
            change wpList _ _ _ _ _ W.drew
            go_wp2_with fail
            rw [Ide.shr_nat v k]
            refine (outTimer_hp OK.out HT2.out j (v / 256 ^ k % 256) (by have := HJ.out; simpa using this) hbv).mono ?_
            rintro e w2 ⟨rfl, T3⟩
            rw [← HS1.out] at T3
            have HT3 := Lib.hid T3
            clear T3
            go_wp2_with fail
            go_roundw
            case rel => exact ⟨k + 1, by omega, by go_num, HT3.out⟩
            case measure => (simp [intOf]) <;> omega
          · have HS1 := Lib.hid hs
            have HJ := Lib.hid hj
            clear hs hk5 hj
            simp only [outF, inF] at lk
            go_upto_region 12 with (fail)
            clear lk k0 k1 k2 k3 k4 k5 k6 k7 kf kl
            have T2 := HT1.out.alloc (.cells #[.func (.func 44) #[.pointer (some ⟨b, 0, none⟩)] #[], .func (.func 45) #[.pointer (some ⟨b, 0, none⟩)] #[], .int .i64 (j : Nat)] 77)
            have hb := heap_new wr (.cells #[.func (.func 44) #[.pointer (some ⟨b, 0, none⟩)] #[], .func (.func 45) #[.pointer (some ⟨b, 0, none⟩)] #[], .int .i64 (j : Nat)] 77)
            have hl := heap_lt hb
            generalize wr.alloc (.cells #[.func (.func 44) #[.pointer (some ⟨b, 0, none⟩)] #[], .func (.func 45) #[.pointer (some ⟨b, 0, none⟩)] #[], .int .i64 (j : Nat)] 77) = W at *
            generalize wr.heap.size = g at *
            have x0 : W.cell? ⟨g, 0, none⟩ = some (.func (.func 44) #[.pointer (some ⟨b, 0, none⟩)] #[]) := by rw [cell_at hb]; rfl
            have x2 : W.cell? ⟨g, 2, none⟩ = some (.int .i64 (j : Nat)) := by rw [cell_at hb]; rfl
            have HT2 := Lib.hid T2.drew
            have hw : IntKind.i64.wrap (8 * (k : Int)) = 8 * (k : Int) := IntWalk.i64_in _ (by omega)
            clear hb T2
            go_still_tail 9, (by kernel_rfl)
            change wpList _ _ _ _ _ W.drew
            go_wp2_with fail
            rw [Ide.shr_nat v k]
            refine (outPort_hp HT2.out j (v / 256 ^ k % 256) hbv (by have := FI.out.s; omega)).mono ?_
            rintro e w2 ⟨rfl, T3⟩
            rw [← HS1.out] at T3
            have HT3 := Lib.hid T3
            clear T3
            go_wp2_with fail
            go_roundw
            case rel => exact ⟨k + 1, by omega, by go_num, HT3.out⟩
            case measure => (simp [intOf]) <;> omega
          · have HS1 := Lib.hid hs
            have HJ := Lib.hid hj
            clear hs hk5 hj
            simp only [outF, inF] at lk
            go_upto_region 12 with (fail)
            clear lk k0 k1 k2 k3 k4 k5 k6 k7 kf kl
            have T2 := HT1.out.alloc (.cells #[.func (.func 46) #[.pointer (some ⟨b, 0, none⟩)] #[], .func (.func 47) #[.pointer (some ⟨b, 0, none⟩)] #[], .int .i64 (j : Nat)] 77)
            have hb := heap_new wr (.cells #[.func (.func 46) #[.pointer (some ⟨b, 0, none⟩)] #[], .func (.func 47) #[.pointer (some ⟨b, 0, none⟩)] #[], .int .i64 (j : Nat)] 77)
            have hl := heap_lt hb
            generalize wr.alloc (.cells #[.func (.func 46) #[.pointer (some ⟨b, 0, none⟩)] #[], .func (.func 47) #[.pointer (some ⟨b, 0, none⟩)] #[], .int .i64 (j : Nat)] 77) = W at *
            generalize wr.heap.size = g at *
            have x0 : W.cell? ⟨g, 0, none⟩ = some (.func (.func 46) #[.pointer (some ⟨b, 0, none⟩)] #[]) := by rw [cell_at hb]; rfl
            have x2 : W.cell? ⟨g, 2, none⟩ = some (.int .i64 (j : Nat)) := by rw [cell_at hb]; rfl
            have HT2 := Lib.hid T2.drew
            have hw : IntKind.i64.wrap (8 * (k : Int)) = 8 * (k : Int) := IntWalk.i64_in _ (by omega)
            clear hb T2
            go_still_tail 9, (by kernel_rfl)
            change wpList _ _ _ _ _ W.drew
            go_wp2_with fail
            rw [Ide.shr_nat v k]
            refine (outDrive_hp HT2.out j (v / 256 ^ k % 256) hbv (by have := FI.out.l; omega)).mono ?_
            rintro e w2 ⟨rfl, T3⟩
            rw [← HS1.out] at T3
            have HT3 := Lib.hid T3
            clear T3
            go_wp2_with fail
            go_roundw
            case rel => exact ⟨k + 1, by omega, by go_num, HT3.out⟩
            case measure => (simp [intOf]) <;> omega
          · have HS1 := Lib.hid hs
            have HJ := Lib.hid hj
            clear hs hk5 hj
            simp only [outF, inF] at lk
            go_upto_region 12 with (fail)
            clear lk k0 k1 k2 k3 k4 k5 k6 k7 kf kl
            have T2 := HT1.out.alloc (.cells #[.func (.func 48) #[.pointer (some ⟨b, 0, none⟩)] #[], .func (.func 49) #[.pointer (some ⟨b, 0, none⟩)] #[], .int .i64 (j : Nat)] 77)
            have hb := heap_new wr (.cells #[.func (.func 48) #[.pointer (some ⟨b, 0, none⟩)] #[], .func (.func 49) #[.pointer (some ⟨b, 0, none⟩)] #[], .int .i64 (j : Nat)] 77)
            have hl := heap_lt hb
            generalize wr.alloc (.cells #[.func (.func 48) #[.pointer (some ⟨b, 0, none⟩)] #[], .func (.func 49) #[.pointer (some ⟨b, 0, none⟩)] #[], .int .i64 (j : Nat)] 77) = W at *
            generalize wr.heap.size = g at *
            have x0 : W.cell? ⟨g, 0, none⟩ = some (.func (.func 48) #[.pointer (some ⟨b, 0, none⟩)] #[]) := by rw [cell_at hb]; rfl
            have x2 : W.cell? ⟨g, 2, none⟩ = some (.int .i64 (j : Nat)) := by rw [cell_at hb]; rfl
            have HT2 := Lib.hid T2.drew
            have hw : IntKind.i64.wrap (8 * (k : Int)) = 8 * (k : Int) := IntWalk.i64_in _ (by omega)
            clear hb T2
            go_still_tail 9, (by kernel_rfl)
            change wpList _ _ _ _ _ W.drew
            go_wp2_with fail
            rw [Ide.shr_nat v k]
            refine (outGate_hp HT2.out j (v / 256 ^ k % 256) hbv).mono ?_
            rintro e w2 ⟨rfl, T3⟩
            rw [← HS1.out] at T3
            have HT3 := Lib.hid T3
            clear T3
            go_wp2_with fail
            go_roundw
            case rel => exact ⟨k + 1, by omega, by go_num, HT3.out⟩
            case measure => (simp [intOf]) <;> omega
      · have hk2 : k = s := by omega
        subst hk2
        have HT2 := Lib.hid T
        clear T
        go_wp2_with fail
        have T2 : Hp w0 A0 wr (busObs b pp pt pu pi pm mp (B.wide a k v)) := by
          show Hp _ _ _ (busObs _ _ _ _ _ _ _ (if a = 496 then _ else B.outs a v k)); rw [if_neg H9.out]; exact HT2.out
        refine (lines_hp (Bs.wide_ok HO.out a k v).1 T2).mono ?_
        rintro e w2 ⟨rfl, T3⟩
        go_wp2_with fail
        go_ret
        exact ⟨rfl, T3⟩
end
end Go.Proofs.Ytojmpdddfnkffaa

/- bus: In. -/
namespace Go.Proofs.Ytojmpdddfnkffaa
open Go.RowKit Go.MapKept
set_option linter.unusedVariables false

def Bs.inPV (B : Bs) (p : Nat) : Nat := match dev p with
  | none => 255
  | some x => (B.in1V x.1 x.2).toNat
def Bs.inPS (B : Bs) (p : Nat) : Bs := match dev p with
  | none => B
  | some x => B.in1S x.1 x.2
def Bs.insS (B : Bs) (a : Nat) : Nat → Bs
  | 0 => B
  | k + 1 => (B.insS a k).inPS ((a + k) % 65536)
def Bs.insV (B : Bs) (a : Nat) : Nat → Nat
  | 0 => 0
  | k + 1 => B.insV a k + (B.insS a k).inPV ((a + k) % 65536) * 256 ^ k
def Bs.wideV (B : Bs) (a s : Nat) : Nat := if a = 496 then B.k.inV 0 s else B.insV a s
def Bs.wideS (B : Bs) (a s : Nat) : Bs := if a = 496 then { B with k := B.k.inS 0 s } else B.insS a s
def Bs.inS (B : Bs) (a s : Nat) : Bs := (B.wideS a s).lines
structure Oks (B : Bs) : Prop where
  c : B.c.ok
  d : B.d.ok
  u : B.u.ok
  r : B.k.room
theorem val_bd (x : Int) : 0 ≤ x % 256 ∧ x % 256 < 256 := by omega
theorem getV_bd (c : Pit.Ct) (t : Int) : 0 ≤ c.getV t ∧ c.getV t < 256 := by
  unfold Pit.Ct.getV
  simp only
  split <;> exact val_bd _
theorem tmV_bd (T : Tm3) (n t : Int) : 0 ≤ T.inV n t ∧ T.inV n t < 256 := by
  unfold Tm3.inV
  (repeat' split)
  · exact getV_bd _ _
  · exact getV_bd _ _
  · exact getV_bd _ _
  · omega
theorem picV_bd {c d : Pic.Chip} (hc : c.ok) (hd : d.ok) (n : Int) : Pic.inv c d n < 256 := by
  have h1 := hc.served
  have h2 := hc.masked
  have h3 := hd.served
  have h4 := hd.masked
  have h5 := hd.asks
  have h6 := Pic.ask0_lt c d hc.asks
  unfold Pic.inv Pic.inv0
  (repeat' split) <;> omega
theorem uartV_bd {U : Uart.Ut} (h : U.ok) (n : Int) : U.inV n < 256 := by
  have h1 := h.d0
  have h2 := h.d1
  have h3 := h.lcr
  have h4 := h.mcr
  have h5 := h.scr
  have h6 := h.wanted
  have h7 : U.came.headD 0 < 256 := by
    cases hc : U.came with
    | nil => decide
    | cons a l => exact h.c2 a (by rw [hc]; exact List.mem_cons_self ..)
  unfold Uart.Ut.inV Uart.Ut.why Uart.Ut.stat
  (repeat' split) <;> omega
theorem Bs.in1_bd {B : Bs} (h : Oks B) (k n : Nat) : 0 ≤ B.in1V k n ∧ B.in1V k n < 256 := by
  unfold Bs.in1V
  split
  · have := picV_bd h.c h.d n; omega
  · exact tmV_bd _ _ _
  · have := uartV_bd h.u n; omega
  · omega
  · split <;> omega
theorem Bs.inP_bd {B : Bs} (h : Oks B) (p : Nat) : B.inPV p < 256 := by
  unfold Bs.inPV
  split
  · decide
  · have := in1_bd h (by assumption : Nat × Nat).1 (by assumption : Nat × Nat).2; omega
theorem Bs.in1_ok {B : Bs} (h : B.ok) (k n : Nat) : (B.in1S k n).ok ∧ (B.in1S k n).t = B.t := by
  unfold Bs.in1S
  split
  · exact ⟨h, rfl⟩
  · exact ⟨⟨Tm3.inS_ok h.T _, h.t⟩, rfl⟩
  · exact ⟨⟨h.T, h.t⟩, rfl⟩
  · exact ⟨⟨h.T, h.t⟩, rfl⟩
  · exact ⟨h, rfl⟩
theorem Bs.insS_ok {B : Bs} (h : B.ok) (a : Nat) : ∀ k, (B.insS a k).ok ∧ (B.insS a k).t = B.t
  | 0 => ⟨h, rfl⟩
  | k + 1 => by
    have ih := insS_ok h a k
    show (Bs.inPS _ _).ok ∧ (Bs.inPS _ _).t = _
    unfold Bs.inPS
    split
    · exact ih
    · have q := in1_ok ih.1 (by assumption : Nat × Nat).1 (by assumption : Nat × Nat).2
      exact ⟨q.1, q.2.trans ih.2⟩
theorem Bs.wideS_ok {B : Bs} (h : B.ok) (a s : Nat) : (B.wideS a s).ok ∧ (B.wideS a s).t = B.t := by
  unfold Bs.wideS
  split
  · exact ⟨⟨h.T, h.t⟩, rfl⟩
  · exact insS_ok h a s
theorem Bs.inS_ok {B : Bs} (h : B.ok) (a s : Nat) : (B.inS a s).ok := lines_ok (wideS_ok h a s).1
section
variable {b pp pt pu pi pm mp : Nat} {B : Bs} {w0 w : World} {A0 : Nat → Prop}
theorem Hp.oks (T : Hp w0 A0 w (busObs b pp pt pu pi pm mp B)) : Oks B := by
  obtain ⟨A1, h1⟩ := T.get 1 rfl
  obtain ⟨A2, q, sv, h2, -⟩ := T.get 3 rfl
  obtain ⟨A3, ds, lv, h3, h4, -⟩ := T.get 4 rfl
  exact ⟨h1.2.1.1, h1.2.1.2, h2.ok, h4⟩
theorem or_at (V n k : Nat) (hV : V < 256 ^ k) (hn : n < 256) (hk : k < 4) : bits BinOp.or IntKind.u32 (V : Int) ((n * 256 ^ k : Nat) : Int) = ((V + n * 256 ^ k : Nat) : Int) := by
  have h1 : n * 256 ^ k < 256 ^ (k + 1) := by rw [Nat.pow_succ, Nat.mul_comm]; exact Nat.mul_lt_mul_of_pos_left hn (Nat.pow_pos (by decide))
  have h2 : 256 ^ (k + 1) ≤ 256 ^ 4 := Nat.pow_le_pow_right (by decide) (by omega)
  have h3 : 256 ^ k ≤ 256 ^ 4 := Nat.pow_le_pow_right (by decide) (by omega)
  have hp : 256 ^ k = 2 ^ (8 * k) := by rw [Nat.pow_mul]
  rw [u32_or _ _ (by omega) (by omega) (by omega) (by omega), Int.toNat_natCast, Int.toNat_natCast, Nat.or_comm, nat_join (8 * k) _ _ (by rw [hp]; exact Nat.mul_mod_left _ _) (by rw [← hp]; exact hV), Nat.add_comm]
theorem or_at2 (V k : Nat) (x : Int) (hV : V < 256 ^ k) (h0 : 0 ≤ x) (hn : x < 256) (hk : k < 4) : bits BinOp.or IntKind.u32 (V : Int) (x * 2 ^ (8 * k) % 4294967296) = ((V + x.toNat * 256 ^ k : Nat) : Int) := by
  obtain ⟨n, rfl⟩ := Int.eq_ofNat_of_zero_le h0
  have h1 : n * 256 ^ k < 256 ^ (k + 1) := by rw [Nat.pow_succ, Nat.mul_comm]; exact Nat.mul_lt_mul_of_pos_left (by omega) (Nat.pow_pos (by decide))
  have h2 : 256 ^ (k + 1) ≤ 256 ^ 4 := Nat.pow_le_pow_right (by decide) (by omega)
  have hp : (256 : Nat) ^ k = 2 ^ (8 * k) := by rw [Nat.pow_mul]
  have e : ((n : Nat) : Int) * 2 ^ (8 * k) % 4294967296 = ((n * 256 ^ k : Nat) : Int) := by
    rw [show ((n : Nat) : Int) * 2 ^ (8 * k) = ((n * 256 ^ k : Nat) : Int) by rw [hp]; simp]
    omega
  rw [e]
  exact or_at V n k hV (by omega) hk
theorem insV_bd {B : Bs} {a : Nat} (h : ∀ k, Oks (B.insS a k)) : ∀ k, B.insV a k < 256 ^ k
  | 0 => Nat.zero_lt_one
  | k + 1 => by
    have ih := insV_bd h k
    have := Bs.inP_bd (h k) ((a + k) % 65536)
    show B.insV a k + _ * 256 ^ k < 256 ^ (k + 1)
    have h1 : ((B.insS a k).inPV ((a + k) % 65536)) * 256 ^ k ≤ 255 * 256 ^ k := Nat.mul_le_mul_right _ (by omega)
    rw [Nat.pow_succ]
    omega
theorem Bs.in1_oks {B : Bs} (h : Oks B) (hT : ∀ U : Uart.Ut, U.ok → ∀ n, (U.inS n).ok) (hD : ∀ D : Ide.Dk, D.room → ∀ n s, (D.inS n s).room) (k n : Nat) : Oks (B.in1S k n) := by
  unfold Bs.in1S
  split
  · exact h
  · exact ⟨h.c, h.d, h.u, h.r⟩
  · exact ⟨h.c, h.d, hT _ h.u _, h.r⟩
  · exact ⟨h.c, h.d, h.u, hD _ h.r _ _⟩
  · exact h
set_option maxRecDepth 20000 in
set_option maxHeartbeats 4000000 in
theorem in_hp (h : B.ok) (T : Hp w0 A0 w (busObs b pp pt pu pi pm mp B)) (a s : Nat) (ha : a < 65536) (hs : s = 1 ∨ s = 2 ∨ s = 4) :
    Calls Try.prog 12 #[.pointer (some ⟨b, 0, none⟩), .int .u16 (a : Nat), .int .i64 (s : Nat)] w fun e w' => e = .returned (.tuple #[.int .u32 (B.wideV a s : Nat), .int .i64 0]) ∧ Hp w0 A0 w' (busObs b pp pt pu pi pm mp (B.inS a s)) := by
  have HO := Lib.hid h
  have HS := Lib.hid hs
  have s4 : s ≤ 4 := by omega
  clear h hs
  go_enter Try.func12, Try.ntmps12
  go_wp2_with fail
  refine (check_any s HS.out w).mono ?_
  rintro e w1 ⟨rfl, rfl⟩
  by_cases h9 : a = 496
  · subst h9
    obtain ⟨k0, k1, k2, k3, k4, k5, k6, k7, kf, kl⟩ := bus_facts T.bus
    go_wp2_with fail
    refine (T.act 4 rfl (ide_in 0 s)).mono ?_
    rintro e w1 ⟨rfl, T1⟩
    have T2 : Hp w0 A0 w1 (busObs b pp pt pu pi pm mp (B.wideS 496 s)) := T1
    clear T1 T k0 k1 k2 k3 k4 k5 k6 k7 kf kl
    go_wp2_with fail
    go_loopw [9, 33] (fun x i wr => x = .int .u32 (B.k.inV 0 s : Nat) ∧ i = .int .i64 0 ∧ wr = w1) (fun x i _ => 0)
    case atStart => exact ⟨rfl, rfl, rfl⟩
    case round =>
      obtain ⟨rfl, rfl, rfl⟩ := hrel
      go_wp2_with fail
      refine (lines_hp (Bs.wideS_ok HO.out 496 s).1 T2).mono ?_
      rintro e w2 ⟨rfl, T3⟩
      go_wp2_with fail
      go_ret2
      exact ⟨rfl, T3⟩
  · have e9 : ((a : Int) == 496) = false := by simp; omega
    have H9 := Lib.hid h9
    clear h9
    have HT := Lib.hid T
    clear T
    go_wp2_with fail
    go_loopw [9, 33] (fun x i wr => ∃ k : Nat, k ≤ s ∧ i = .int .i64 k ∧ x = .int .u32 (B.insV a k : Nat) ∧ B.insV a k < 256 ^ k ∧ Hp w0 A0 wr (busObs b pp pt pu pi pm mp (B.insS a k))) (fun x i _ => s - (intOf i).toNat)
    case atStart => exact ⟨0, by omega, rfl, rfl, Nat.zero_lt_one, HT.out⟩
    case round =>
      rename_i wr
      obtain ⟨k, hk, rfl, rfl, hVb, T⟩ := hrel
      have OK := Lib.hid (Bs.insS_ok HO.out a k).1
      have HV := Lib.hid hVb
      clear hVb
      by_cases hlt : k < s
      · obtain ⟨k0, k1, k2, k3, k4, k5, k6, k7, kf, kl⟩ := bus_facts T.bus
        have hkey : IntKind.u16.wrap ((a : Int) + (k : Int)) = (((a + k) % 65536 : Nat) : Int) := by rw [IntKind.wrap_u16]; omega
        have HT1 := Lib.hid T
        have hw : IntKind.i64.wrap (8 * (k : Int)) = 8 * (k : Int) := IntWalk.i64_in _ (by omega)
        have q2 : (0 : Int) ≤ 8 * (k : Int) := by omega
        have q3 : (8 : Int) * (k : Int) ≤ 32 := by omega
        have hbd := Bs.inP_bd T.oks ((a + k) % 65536)
        have hnext : B.insV a (k + 1) < 256 ^ (k + 1) := by
          show B.insV a k + _ * 256 ^ k < _
          have h1 : ((B.insS a k).inPV ((a + k) % 65536)) * 256 ^ k ≤ 255 * 256 ^ k := Nat.mul_le_mul_right _ (by omega)
          have := HV.out
          rw [Nat.pow_succ]
          omega
        have HN := Lib.hid hnext
        have hvv : B.insV a (k + 1) = B.insV a k + (B.insS a k).inPV ((a + k) % 65536) * 256 ^ k := rfl
        have HVV := Lib.hid hvv
        have hbds := Bs.in1_bd T.oks
        have HBD := Lib.hid hbds
        clear hnext hvv hbds
        cases hd : dev ((a + k) % 65536) with
        | none =>
          have lk := T.lookN ((a + k) % 65536) _ hkey hd
          have hs : (B.insS a (k + 1)) = B.insS a k := by show Bs.inPS _ _ = _; unfold Bs.inPS; rw [hd]
          have hp : (B.insS a k).inPV ((a + k) % 65536) = 255 := by unfold Bs.inPV; rw [hd]
          have HP := Lib.hid hp
          have HS1 := Lib.hid hs
          clear hs hd hkey T hbd hp
          go_wp2_with fail
          go_roundw
          case rel =>
            refine ⟨k + 1, by omega, by go_num, ?_, HN.out, by rw [HS1.out]; exact HT1.out.alloc _⟩
            rw [or_at2 (B.insV a k) k 255 HV.out (by decide) (by decide) (by omega), HVV.out, HP.out]; rfl
          case measure => (simp [intOf]) <;> omega
        | some x =>
          obtain ⟨kd, j⟩ := x
          have hs : (B.insS a (k + 1)) = (B.insS a k).in1S kd j := by show Bs.inPS _ _ = _; unfold Bs.inPS; rw [hd]
          have hp : (B.insS a k).inPV ((a + k) % 65536) = ((B.insS a k).in1V kd j).toNat := by unfold Bs.inPV; rw [hd]
          have HP := Lib.hid hp
          obtain ⟨hk5, hj⟩ := dev_bd hd
          simp only at hk5 hj
          have lk := T.lookS ((a + k) % 65536) _ hkey kd j hd
          have hvb := HBD.out kd j
          clear hd hkey T hbd hp
          rcases (show kd = 0 ∨ kd = 1 ∨ kd = 2 ∨ kd = 3 ∨ kd = 4 by omega) with rfl | rfl | rfl | rfl | rfl
          · have HS1 := Lib.hid hs
            have HJ := Lib.hid hj
            clear hs hk5 hj
            simp only [outF, inF] at lk
            go_upto_region 14 with (fail)
            clear lk k0 k1 k2 k3 k4 k5 k6 k7 kf kl
            have T2 := HT1.out.alloc (.cells #[.func (.func 40) #[.pointer (some ⟨b, 0, none⟩)] #[], .func (.func 41) #[.pointer (some ⟨b, 0, none⟩)] #[], .int .i64 (j : Nat)] 77)
            have hb := heap_new wr (.cells #[.func (.func 40) #[.pointer (some ⟨b, 0, none⟩)] #[], .func (.func 41) #[.pointer (some ⟨b, 0, none⟩)] #[], .int .i64 (j : Nat)] 77)
            have hl := heap_lt hb
            generalize wr.alloc (.cells #[.func (.func 40) #[.pointer (some ⟨b, 0, none⟩)] #[], .func (.func 41) #[.pointer (some ⟨b, 0, none⟩)] #[], .int .i64 (j : Nat)] 77) = W at *
            generalize wr.heap.size = g at *
            have x1 : W.cell? ⟨g, 1, none⟩ = some (.func (.func 41) #[.pointer (some ⟨b, 0, none⟩)] #[]) := by rw [cell_at hb]; rfl
            have x2 : W.cell? ⟨g, 2, none⟩ = some (.int .i64 (j : Nat)) := by rw [cell_at hb]; rfl
            have HT2 := Lib.hid T2
            clear hb T2
            generalize hx : (B.insS a k).in1V 0 j = xv at *
            have HX := Lib.hid hx
            clear hx
            go_wp2_with fail
            refine (inPic_hp HT2.out j).mono ?_
            rintro e w2 ⟨rfl, T3⟩
            rw [← HS1.out] at T3
            rw [HX.out]
            have HT3 := Lib.hid T3
            obtain ⟨hv0, hv1⟩ := hvb
            clear T3
            go_wp2_with fail
            go_roundw
            case rel =>
              refine ⟨k + 1, by omega, by go_num, ?_, HN.out, HT3.out⟩
              rw [or_at2 (B.insV a k) k xv HV.out hv0 hv1 (by omega), HVV.out, HP.out]
            case measure => (simp [intOf]) <;> omega
          · have HS1 := Lib.hid hs
            have HJ := Lib.hid hj
            clear hs hk5 hj
            simp only [outF, inF] at lk
            go_upto_region 14 with (fail)
            clear lk k0 k1 k2 k3 k4 k5 k6 k7 kf kl
            have T2 := HT1.out.alloc (.cells #[.func (.func 42) #[.pointer (some ⟨b, 0, none⟩)] #[], .func (.func 43) #[.pointer (some ⟨b, 0, none⟩)] #[], .int .i64 (j : Nat)] 77)
            have hb := heap_new wr (.cells #[.func (.func 42) #[.pointer (some ⟨b, 0, none⟩)] #[], .func (.func 43) #[.pointer (some ⟨b, 0, none⟩)] #[], .int .i64 (j : Nat)] 77)
            have hl := heap_lt hb
            generalize wr.alloc (.cells #[.func (.func 42) #[.pointer (some ⟨b, 0, none⟩)] #[], .func (.func 43) #[.pointer (some ⟨b, 0, none⟩)] #[], .int .i64 (j : Nat)] 77) = W at *
            generalize wr.heap.size = g at *
            have x1 : W.cell? ⟨g, 1, none⟩ = some (.func (.func 43) #[.pointer (some ⟨b, 0, none⟩)] #[]) := by rw [cell_at hb]; rfl
            have x2 : W.cell? ⟨g, 2, none⟩ = some (.int .i64 (j : Nat)) := by rw [cell_at hb]; rfl
            have HT2 := Lib.hid T2
            clear hb T2
            generalize hx : (B.insS a k).in1V 1 j = xv at *
            have HX := Lib.hid hx
            clear hx
            go_wp2_with fail
            refine (inTimer_hp OK.out HT2.out j (by have := HJ.out; simpa using this)).mono ?_
            rintro e w2 ⟨rfl, T3⟩
            rw [← HS1.out] at T3
            rw [HX.out]
            have HT3 := Lib.hid T3
            obtain ⟨hv0, hv1⟩ := hvb
            clear T3
            go_wp2_with fail
            go_roundw
            case rel =>
              refine ⟨k + 1, by omega, by go_num, ?_, HN.out, HT3.out⟩
              rw [or_at2 (B.insV a k) k xv HV.out hv0 hv1 (by omega), HVV.out, HP.out]
            case measure => (simp [intOf]) <;> omega
          · have HS1 := Lib.hid hs
            have HJ := Lib.hid hj
            clear hs hk5 hj
            simp only [outF, inF] at lk
            go_upto_region 14 with (fail)
            clear lk k0 k1 k2 k3 k4 k5 k6 k7 kf kl
            have T2 := HT1.out.alloc (.cells #[.func (.func 44) #[.pointer (some ⟨b, 0, none⟩)] #[], .func (.func 45) #[.pointer (some ⟨b, 0, none⟩)] #[], .int .i64 (j : Nat)] 77)
            have hb := heap_new wr (.cells #[.func (.func 44) #[.pointer (some ⟨b, 0, none⟩)] #[], .func (.func 45) #[.pointer (some ⟨b, 0, none⟩)] #[], .int .i64 (j : Nat)] 77)
            have hl := heap_lt hb
            generalize wr.alloc (.cells #[.func (.func 44) #[.pointer (some ⟨b, 0, none⟩)] #[], .func (.func 45) #[.pointer (some ⟨b, 0, none⟩)] #[], .int .i64 (j : Nat)] 77) = W at *
            generalize wr.heap.size = g at *
            have x1 : W.cell? ⟨g, 1, none⟩ = some (.func (.func 45) #[.pointer (some ⟨b, 0, none⟩)] #[]) := by rw [cell_at hb]; rfl
            have x2 : W.cell? ⟨g, 2, none⟩ = some (.int .i64 (j : Nat)) := by rw [cell_at hb]; rfl
            have HT2 := Lib.hid T2
            clear hb T2
            generalize hx : (B.insS a k).in1V 2 j = xv at *
            have HX := Lib.hid hx
            clear hx
            go_wp2_with fail
            refine (inPort_hp HT2.out j).mono ?_
            rintro e w2 ⟨rfl, T3⟩
            rw [← HS1.out] at T3
            rw [HX.out]
            have HT3 := Lib.hid T3
            obtain ⟨hv0, hv1⟩ := hvb
            clear T3
            go_wp2_with fail
            go_roundw
            case rel =>
              refine ⟨k + 1, by omega, by go_num, ?_, HN.out, HT3.out⟩
              rw [or_at2 (B.insV a k) k xv HV.out hv0 hv1 (by omega), HVV.out, HP.out]
            case measure => (simp [intOf]) <;> omega
          · have HS1 := Lib.hid hs
            have HJ := Lib.hid hj
            clear hs hk5 hj
            simp only [outF, inF] at lk
            go_upto_region 14 with (fail)
            clear lk k0 k1 k2 k3 k4 k5 k6 k7 kf kl
            have T2 := HT1.out.alloc (.cells #[.func (.func 46) #[.pointer (some ⟨b, 0, none⟩)] #[], .func (.func 47) #[.pointer (some ⟨b, 0, none⟩)] #[], .int .i64 (j : Nat)] 77)
            have hb := heap_new wr (.cells #[.func (.func 46) #[.pointer (some ⟨b, 0, none⟩)] #[], .func (.func 47) #[.pointer (some ⟨b, 0, none⟩)] #[], .int .i64 (j : Nat)] 77)
            have hl := heap_lt hb
            generalize wr.alloc (.cells #[.func (.func 46) #[.pointer (some ⟨b, 0, none⟩)] #[], .func (.func 47) #[.pointer (some ⟨b, 0, none⟩)] #[], .int .i64 (j : Nat)] 77) = W at *
            generalize wr.heap.size = g at *
            have x1 : W.cell? ⟨g, 1, none⟩ = some (.func (.func 47) #[.pointer (some ⟨b, 0, none⟩)] #[]) := by rw [cell_at hb]; rfl
            have x2 : W.cell? ⟨g, 2, none⟩ = some (.int .i64 (j : Nat)) := by rw [cell_at hb]; rfl
            have HT2 := Lib.hid T2
            clear hb T2
            generalize hx : (B.insS a k).in1V 3 j = xv at *
            have HX := Lib.hid hx
            clear hx
            go_wp2_with fail
            refine (inDrive_hp HT2.out j).mono ?_
            rintro e w2 ⟨rfl, T3⟩
            rw [← HS1.out] at T3
            rw [HX.out]
            have HT3 := Lib.hid T3
            obtain ⟨hv0, hv1⟩ := hvb
            clear T3
            go_wp2_with fail
            go_roundw
            case rel =>
              refine ⟨k + 1, by omega, by go_num, ?_, HN.out, HT3.out⟩
              rw [or_at2 (B.insV a k) k xv HV.out hv0 hv1 (by omega), HVV.out, HP.out]
            case measure => (simp [intOf]) <;> omega
          · have HS1 := Lib.hid hs
            have HJ := Lib.hid hj
            clear hs hk5 hj
            simp only [outF, inF] at lk
            go_upto_region 14 with (fail)
            clear lk k0 k1 k2 k3 k4 k5 k6 k7 kf kl
            have T2 := HT1.out.alloc (.cells #[.func (.func 48) #[.pointer (some ⟨b, 0, none⟩)] #[], .func (.func 49) #[.pointer (some ⟨b, 0, none⟩)] #[], .int .i64 (j : Nat)] 77)
            have hb := heap_new wr (.cells #[.func (.func 48) #[.pointer (some ⟨b, 0, none⟩)] #[], .func (.func 49) #[.pointer (some ⟨b, 0, none⟩)] #[], .int .i64 (j : Nat)] 77)
            have hl := heap_lt hb
            generalize wr.alloc (.cells #[.func (.func 48) #[.pointer (some ⟨b, 0, none⟩)] #[], .func (.func 49) #[.pointer (some ⟨b, 0, none⟩)] #[], .int .i64 (j : Nat)] 77) = W at *
            generalize wr.heap.size = g at *
            have x1 : W.cell? ⟨g, 1, none⟩ = some (.func (.func 49) #[.pointer (some ⟨b, 0, none⟩)] #[]) := by rw [cell_at hb]; rfl
            have x2 : W.cell? ⟨g, 2, none⟩ = some (.int .i64 (j : Nat)) := by rw [cell_at hb]; rfl
            have HT2 := Lib.hid T2
            clear hb T2
            generalize hx : (B.insS a k).in1V 4 j = xv at *
            have HX := Lib.hid hx
            clear hx
            go_wp2_with fail
            refine (inGate_hp HT2.out j).mono ?_
            rintro e w2 ⟨rfl, T3⟩
            rw [← HS1.out] at T3
            rw [HX.out]
            have HT3 := Lib.hid T3
            obtain ⟨hv0, hv1⟩ := hvb
            clear T3
            go_wp2_with fail
            go_roundw
            case rel =>
              refine ⟨k + 1, by omega, by go_num, ?_, HN.out, HT3.out⟩
              rw [or_at2 (B.insV a k) k xv HV.out hv0 hv1 (by omega), HVV.out, HP.out]
            case measure => (simp [intOf]) <;> omega
      · have hk2 : k = s := by omega
        subst hk2
        have HT2 := Lib.hid T
        clear T
        go_wp2_with fail
        have T2 : Hp w0 A0 wr (busObs b pp pt pu pi pm mp (B.wideS a k)) := by
          show Hp _ _ _ (busObs _ _ _ _ _ _ _ (if a = 496 then _ else B.insS a k)); rw [if_neg H9.out]; exact HT2.out
        refine (lines_hp (Bs.wideS_ok HO.out a k).1 T2).mono ?_
        rintro e w2 ⟨rfl, T3⟩
        go_wp2_with fail
        go_ret2
        exact ⟨congrArg (fun x : Nat => Ending.returned (Value.tuple #[.int .u32 (x : Int), .int .i64 0])) (if_neg H9.out : B.wideV a k = _).symm, T3⟩
end
end Go.Proofs.Ytojmpdddfnkffaa

