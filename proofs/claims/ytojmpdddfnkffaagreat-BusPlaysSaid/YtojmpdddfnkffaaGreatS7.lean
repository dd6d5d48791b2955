/- Steps of a proof: BusE, Row, HeapB, BusF, BusG, BusH, RefA, RefB, RefC, PicK, together. -/
import Derived.Test.YtojmpdddfnkffaaGreatS6
import Derived.Test.YtojmpdddfnkffaaGreatS0
import Derived.ArgAppend
import Derived.Maps.AppendAt
import Derived.Test.YtojmpdddfnkffaaGreatS5
import Derived.Test.YtojmpdddfnkffaaGreatS2
/- bus: In. -/
set_option maxHeartbeats 8000000
set_option maxRecDepth 20000
namespace Go.Proofs.YtojmpdddfnkffaaGreat
open Go.RowKit Go.MapKept
set_option linter.unusedVariables false

def Bs.inPV (B : Bs) (p : Nat) : Nat := match dev p with
 | none => 255
 | some x => (B.in1V x.1 x.2).toNat
def Bs.inPS (B : Bs) (p : Nat) : Bs := match dev p with
 | none => B
 | some x => B.in1S x.1 x.2
def Bs.insS (B : Bs) (a : Nat) : Nat → Bs
 | 0 => B
 | k + 1 => (B.insS a k).inPS ((a + k) % 65536)
def Bs.insV (B : Bs) (a : Nat) : Nat → Nat
 | 0 => 0
 | k + 1 => B.insV a k + (B.insS a k).inPV ((a + k) % 65536) * 256 ^ k
def Bs.wideV (B : Bs) (a s : Nat) : Nat := if a = 496 then B.k.inV 0 s else B.insV a s
def Bs.wideS (B : Bs) (a s : Nat) : Bs := if a = 496 then { B with k := B.k.inS 0 s } else B.insS a s
def Bs.inS (B : Bs) (a s : Nat) : Bs := (B.wideS a s).lines
structure Oks (B : Bs) : Prop where
 c : B.c.ok
 d : B.d.ok
 u : B.u.ok
 r : B.k.room
theorem val_bd (x : Int) : 0 ≤ x % 256 ∧ x % 256 < 256 := by omega
theorem getV_bd (c : Pit.Ct) (t : Int) : 0 ≤ c.getV t ∧ c.getV t < 256 := by
 unfold Pit.Ct.getV
 simp only
 split <;> exact val_bd _
theorem tmV_bd (T : Tm3) (n t : Int) : 0 ≤ T.inV n t ∧ T.inV n t < 256 := by
 unfold Tm3.inV
 (repeat' split)
 ·exact getV_bd _ _
 ·exact getV_bd _ _
 ·exact getV_bd _ _
 ·omega
theorem picV_bd {c d : Pic.Chip} (hc : c.ok) (hd : d.ok) (n : Int) : Pic.inv c d n < 256 := by
 have h1 := hc.served
 have h2 := hc.masked
 have h3 := hd.served
 have h4 := hd.masked
 have h5 := hd.asks
 have h6 := Pic.ask0_lt c d hc.asks
 unfold Pic.inv Pic.inv0
 (repeat' split) <;> omega
theorem uartV_bd {U : Uart.Ut} (h : U.ok) (n : Int) : U.inV n < 256 := by
 have h1 := h.d0
 have h2 := h.d1
 have h3 := h.lcr
 have h4 := h.mcr
 have h5 := h.scr
 have h6 := h.wanted
 have h7 : U.came.headD 0 < 256 := by
  cases hc : U.came with
  | nil => decide
  | cons a l => exact h.c2 a (by rw [hc]; exact List.mem_cons_self ..)
 unfold Uart.Ut.inV Uart.Ut.why Uart.Ut.stat
 (repeat' split) <;> omega
theorem Bs.in1_bd {B : Bs} (h : Oks B) (k n : Nat) : 0 ≤ B.in1V k n ∧ B.in1V k n < 256 := by
 unfold Bs.in1V
 split
 ·have := picV_bd h.c h.d n; omega
 ·exact tmV_bd _ _ _
 ·have := uartV_bd h.u n; omega
 ·omega
 ·split <;> omega
theorem Bs.inP_bd {B : Bs} (h : Oks B) (p : Nat) : B.inPV p < 256 := by
 unfold Bs.inPV
 split
 ·decide
 ·have := in1_bd h (by assumption : Nat × Nat).1 (by assumption : Nat × Nat).2; omega
theorem Bs.in1_ok {B : Bs} (h : B.ok) (k n : Nat) : (B.in1S k n).ok ∧ (B.in1S k n).t = B.t := by
 unfold Bs.in1S
 split
 ·exact ⟨h, rfl⟩
 ·exact ⟨⟨Tm3.inS_ok h.T _, h.t⟩, rfl⟩
 ·exact ⟨⟨h.T, h.t⟩, rfl⟩
 ·exact ⟨⟨h.T, h.t⟩, rfl⟩
 ·exact ⟨h, rfl⟩
theorem Bs.insS_ok {B : Bs} (h : B.ok) (a : Nat) : ∀ k, (B.insS a k).ok ∧ (B.insS a k).t = B.t
 | 0 => ⟨h, rfl⟩
 | k + 1 => by
  have ih := insS_ok h a k
  show (Bs.inPS _ _).ok ∧ (Bs.inPS _ _).t = _
  unfold Bs.inPS
  split
  ·exact ih
  ·have q := in1_ok ih.1 (by assumption : Nat × Nat).1 (by assumption : Nat × Nat).2
   exact ⟨q.1, q.2.trans ih.2⟩
theorem Bs.wideS_ok {B : Bs} (h : B.ok) (a s : Nat) : (B.wideS a s).ok ∧ (B.wideS a s).t = B.t := by
 unfold Bs.wideS
 split
 ·exact ⟨⟨h.T, h.t⟩, rfl⟩
 ·exact insS_ok h a s
theorem Bs.inS_ok {B : Bs} (h : B.ok) (a s : Nat) : (B.inS a s).ok := lines_ok (wideS_ok h a s).1
section
variable {b pp pt pu pi pm mp : Nat} {B : Bs} {w0 w : World} {A0 : Nat → Prop}
theorem Hp.oks (T : Hp w0 A0 w (busObs b pp pt pu pi pm mp B)) : Oks B := by
 obtain ⟨A1, h1⟩ := T.get 1 rfl
 obtain ⟨A2, q, sv, h2, -⟩ := T.get 3 rfl
 obtain ⟨A3, ds, lv, h3, h4, -⟩ := T.get 4 rfl
 exact ⟨h1.2.1.1, h1.2.1.2, h2.ok, h4⟩
theorem or_at (V n k : Nat) (hV : V < 256 ^ k) (hn : n < 256) (hk : k < 4) : bits BinOp.or IntKind.u32 (V : Int) ((n * 256 ^ k : Nat) : Int) = ((V + n * 256 ^ k : Nat) : Int) := by
 have h1 : n * 256 ^ k < 256 ^ (k + 1) := by rw [Nat.pow_succ, Nat.mul_comm]; exact Nat.mul_lt_mul_of_pos_left hn (Nat.pow_pos (by decide))
 have h2 : 256 ^ (k + 1) ≤ 256 ^ 4 := Nat.pow_le_pow_right (by decide) (by omega)
 have h3 : 256 ^ k ≤ 256 ^ 4 := Nat.pow_le_pow_right (by decide) (by omega)
 have hp : 256 ^ k = 2 ^ (8 * k) := by rw [Nat.pow_mul]
 rw [u32_or _ _ (by omega) (by omega) (by omega) (by omega), Int.toNat_natCast, Int.toNat_natCast, Nat.or_comm, nat_join (8 * k) _ _ (by rw [hp]; exact Nat.mul_mod_left _ _) (by rw [← hp]; exact hV), Nat.add_comm]
theorem or_at2 (V k : Nat) (x : Int) (hV : V < 256 ^ k) (h0 : 0 ≤ x) (hn : x < 256) (hk : k < 4) : bits BinOp.or IntKind.u32 (V : Int) (x * 2 ^ (8 * k) % 4294967296) = ((V + x.toNat * 256 ^ k : Nat) : Int) := by
 obtain ⟨n, rfl⟩ := Int.eq_ofNat_of_zero_le h0
 have h1 : n * 256 ^ k < 256 ^ (k + 1) := by rw [Nat.pow_succ, Nat.mul_comm]; exact Nat.mul_lt_mul_of_pos_left (by omega) (Nat.pow_pos (by decide))
 have h2 : 256 ^ (k + 1) ≤ 256 ^ 4 := Nat.pow_le_pow_right (by decide) (by omega)
 have hp : (256 : Nat) ^ k = 2 ^ (8 * k) := by rw [Nat.pow_mul]
 have e : ((n : Nat) : Int) * 2 ^ (8 * k) % 4294967296 = ((n * 256 ^ k : Nat) : Int) := by
  rw [show ((n : Nat) : Int) * 2 ^ (8 * k) = ((n * 256 ^ k : Nat) : Int) by rw [hp]; simp]
  omega
 rw [e]
 exact or_at V n k hV (by omega) hk
theorem in_hp (h : B.ok) (T : Hp w0 A0 w (busObs b pp pt pu pi pm mp B)) (a s : Nat) (ha : a < 65536) (hs : s = 1 ∨ s = 2 ∨ s = 4) :
    Calls Tryz.prog 20 #[.pointer (some ⟨b, 0, none⟩), .int .u16 (a : Nat), .int .i64 (s : Nat)] w fun e w' => e = .returned (.tuple #[.int .u32 (B.wideV a s : Nat), .int .i64 0]) ∧ Hp w0 A0 w' (busObs b pp pt pu pi pm mp (B.inS a s)) := by
 have HO := Lib.hid h
 have HS := Lib.hid hs
 have s4 : s ≤ 4 := by omega
 clear h hs
 go_enter Tryz.func20, Tryz.ntmps20
 go_wp2_with fail
 refine (check_any s HS.out w).mono ?_
 rintro e w1 ⟨rfl, rfl⟩
 by_cases h9 : a = 496
 ·subst h9
  obtain ⟨k0, k1, k2, k3, k4, k5, k6, k7, kf, kl⟩ := bus_facts T.bus
  go_wp2_with fail
  refine (T.act 4 rfl (ide_in 0 s)).mono ?_
  rintro e w1 ⟨rfl, T1⟩
  have T2 : Hp w0 A0 w1 (busObs b pp pt pu pi pm mp (B.wideS 496 s)) := T1
  clear T1 T k0 k1 k2 k3 k4 k5 k6 k7 kf kl
  go_wp2_with fail
  go_loopw [9, 33] (fun x i wr => x = .int .u32 (B.k.inV 0 s : Nat) ∧ i = .int .i64 0 ∧ wr = w1) (fun x i _ => 0)
  case atStart => exact ⟨rfl, rfl, rfl⟩
  case round =>
   obtain ⟨rfl, rfl, rfl⟩ := hrel
   go_wp2_with fail
   refine (lines_hp (Bs.wideS_ok HO.out 496 s).1 T2).mono ?_
   rintro e w2 ⟨rfl, T3⟩
   go_wp2_with fail
   go_ret2
   exact ⟨rfl, T3⟩
 ·have e9 : ((a : Int) == 496) = false := by simp; omega
  have H9 := Lib.hid h9
  clear h9
  have HT := Lib.hid T
  clear T
  go_wp2_with fail
  go_loopw [9, 33] (fun x i wr => ∃ k : Nat, k ≤ s ∧ i = .int .i64 k ∧ x = .int .u32 (B.insV a k : Nat) ∧ B.insV a k < 256 ^ k ∧ Hp w0 A0 wr (busObs b pp pt pu pi pm mp (B.insS a k))) (fun x i _ => s - (intOf i).toNat)
  case atStart => exact ⟨0, by omega, rfl, rfl, Nat.zero_lt_one, HT.out⟩
  case round =>
   rename_i wr
   obtain ⟨k, hk, rfl, rfl, hVb, T⟩ := hrel
   have OK := Lib.hid (Bs.insS_ok HO.out a k).1
   have HV := Lib.hid hVb
   clear hVb
   by_cases hlt : k < s
   ·obtain ⟨k0, k1, k2, k3, k4, k5, k6, k7, kf, kl⟩ := bus_facts T.bus
    have hkey : IntKind.u16.wrap ((a : Int) + (k : Int)) = (((a + k) % 65536 : Nat) : Int) := by rw [IntKind.wrap_u16]; omega
    have HT1 := Lib.hid T
    have hw : IntKind.i64.wrap (8 * (k : Int)) = 8 * (k : Int) := IntWalk.i64_in _ (by omega)
    have q2 : (0 : Int) ≤ 8 * (k : Int) := by omega
    have q3 : (8 : Int) * (k : Int) ≤ 32 := by omega
    have hbd := Bs.inP_bd T.oks ((a + k) % 65536)
    have hnext : B.insV a (k + 1) < 256 ^ (k + 1) := by
     show B.insV a k + _ * 256 ^ k < _
     have h1 : ((B.insS a k).inPV ((a + k) % 65536)) * 256 ^ k ≤ 255 * 256 ^ k := Nat.mul_le_mul_right _ (by omega)
     have := HV.out
     rw [Nat.pow_succ]
     omega
    have HN := Lib.hid hnext
    have hvv : B.insV a (k + 1) = B.insV a k + (B.insS a k).inPV ((a + k) % 65536) * 256 ^ k := rfl
    have HVV := Lib.hid hvv
    have hbds := Bs.in1_bd T.oks
    have HBD := Lib.hid hbds
    clear hnext hvv hbds
    cases hd : dev ((a + k) % 65536) with
    | none =>
     have lk := T.lookN ((a + k) % 65536) _ hkey hd
     have hs : (B.insS a (k + 1)) = B.insS a k := by show Bs.inPS _ _ = _; unfold Bs.inPS; rw [hd]
     have hp : (B.insS a k).inPV ((a + k) % 65536) = 255 := by unfold Bs.inPV; rw [hd]
     have HP := Lib.hid hp
     have HS1 := Lib.hid hs
     clear hs hd hkey T hbd hp
     go_wp2_with fail
     go_roundw
     case rel =>
      refine ⟨k + 1, by omega, by go_num, ?_, HN.out, by rw [HS1.out]; exact HT1.out.alloc _⟩
      rw [or_at2 (B.insV a k) k 255 HV.out (by decide) (by decide) (by omega), HVV.out, HP.out]; rfl
     case measure => (simp [intOf]) <;> omega
    | some x =>
     obtain ⟨kd, j⟩ := x
     have hs : (B.insS a (k + 1)) = (B.insS a k).in1S kd j := by show Bs.inPS _ _ = _; unfold Bs.inPS; rw [hd]
     have hp : (B.insS a k).inPV ((a + k) % 65536) = ((B.insS a k).in1V kd j).toNat := by unfold Bs.inPV; rw [hd]
     have HP := Lib.hid hp
     obtain ⟨hk5, hj⟩ := dev_bd hd
     simp only at hk5 hj
     have lk := T.lookS ((a + k) % 65536) _ hkey kd j hd
     have hvb := HBD.out kd j
     clear hd hkey T hbd hp
     rcases (show kd = 0 ∨ kd = 1 ∨ kd = 2 ∨ kd = 3 ∨ kd = 4 by omega) with rfl | rfl | rfl | rfl | rfl
     ·have HS1 := Lib.hid hs
      have HJ := Lib.hid hj
      clear hs hk5 hj
      simp only [outF, inF] at lk
      go_upto_region 14 with (fail)
      clear lk k0 k1 k2 k3 k4 k5 k6 k7 kf kl
      have T2 := HT1.out.alloc (.cells #[.func (.func 29) #[.pointer (some ⟨b, 0, none⟩)] #[], .func (.func 30) #[.pointer (some ⟨b, 0, none⟩)] #[], .int .i64 (j : Nat)] 89)
      have hb := heap_new wr (.cells #[.func (.func 29) #[.pointer (some ⟨b, 0, none⟩)] #[], .func (.func 30) #[.pointer (some ⟨b, 0, none⟩)] #[], .int .i64 (j : Nat)] 89)
      have hl := heap_lt hb
      generalize wr.alloc (.cells #[.func (.func 29) #[.pointer (some ⟨b, 0, none⟩)] #[], .func (.func 30) #[.pointer (some ⟨b, 0, none⟩)] #[], .int .i64 (j : Nat)] 89) = W at *
      generalize wr.heap.size = g at *
      have x1 : W.cell? ⟨g, 1, none⟩ = some (.func (.func 30) #[.pointer (some ⟨b, 0, none⟩)] #[]) := by rw [cell_at hb]; rfl
      have x2 : W.cell? ⟨g, 2, none⟩ = some (.int .i64 (j : Nat)) := by rw [cell_at hb]; rfl
      have HT2 := Lib.hid T2
      clear hb T2
      generalize hx : (B.insS a k).in1V 0 j = xv at *
      have HX := Lib.hid hx
      clear hx
      go_wp2_with fail
      refine (inPic_hp HT2.out j).mono ?_
      rintro e w2 ⟨rfl, T3⟩
      rw [← HS1.out] at T3
      rw [HX.out]
      have HT3 := Lib.hid T3
      obtain ⟨hv0, hv1⟩ := hvb
      clear T3
      go_wp2_with fail
      go_roundw
      case rel =>
       refine ⟨k + 1, by omega, by go_num, ?_, HN.out, HT3.out⟩
       rw [or_at2 (B.insV a k) k xv HV.out hv0 hv1 (by omega), HVV.out, HP.out]
      case measure => (simp [intOf]) <;> omega
     ·have HS1 := Lib.hid hs
      have HJ := Lib.hid hj
      clear hs hk5 hj
      simp only [outF, inF] at lk
      go_upto_region 14 with (fail)
      clear lk k0 k1 k2 k3 k4 k5 k6 k7 kf kl
      have T2 := HT1.out.alloc (.cells #[.func (.func 31) #[.pointer (some ⟨b, 0, none⟩)] #[], .func (.func 32) #[.pointer (some ⟨b, 0, none⟩)] #[], .int .i64 (j : Nat)] 89)
      have hb := heap_new wr (.cells #[.func (.func 31) #[.pointer (some ⟨b, 0, none⟩)] #[], .func (.func 32) #[.pointer (some ⟨b, 0, none⟩)] #[], .int .i64 (j : Nat)] 89)
      have hl := heap_lt hb
      generalize wr.alloc (.cells #[.func (.func 31) #[.pointer (some ⟨b, 0, none⟩)] #[], .func (.func 32) #[.pointer (some ⟨b, 0, none⟩)] #[], .int .i64 (j : Nat)] 89) = W at *
      generalize wr.heap.size = g at *
      have x1 : W.cell? ⟨g, 1, none⟩ = some (.func (.func 32) #[.pointer (some ⟨b, 0, none⟩)] #[]) := by rw [cell_at hb]; rfl
      have x2 : W.cell? ⟨g, 2, none⟩ = some (.int .i64 (j : Nat)) := by rw [cell_at hb]; rfl
      have HT2 := Lib.hid T2
      clear hb T2
      generalize hx : (B.insS a k).in1V 1 j = xv at *
      have HX := Lib.hid hx
      clear hx
      go_wp2_with fail
      refine (inTimer_hp OK.out HT2.out j (by have := HJ.out; simpa using this)).mono ?_
      rintro e w2 ⟨rfl, T3⟩
      rw [← HS1.out] at T3
      rw [HX.out]
      have HT3 := Lib.hid T3
      obtain ⟨hv0, hv1⟩ := hvb
      clear T3
      go_wp2_with fail
      go_roundw
      case rel =>
       refine ⟨k + 1, by omega, by go_num, ?_, HN.out, HT3.out⟩
       rw [or_at2 (B.insV a k) k xv HV.out hv0 hv1 (by omega), HVV.out, HP.out]
      case measure => (simp [intOf]) <;> omega
     ·have HS1 := Lib.hid hs
      have HJ := Lib.hid hj
      clear hs hk5 hj
      simp only [outF, inF] at lk
      go_upto_region 14 with (fail)
      clear lk k0 k1 k2 k3 k4 k5 k6 k7 kf kl
      have T2 := HT1.out.alloc (.cells #[.func (.func 33) #[.pointer (some ⟨b, 0, none⟩)] #[], .func (.func 34) #[.pointer (some ⟨b, 0, none⟩)] #[], .int .i64 (j : Nat)] 89)
      have hb := heap_new wr (.cells #[.func (.func 33) #[.pointer (some ⟨b, 0, none⟩)] #[], .func (.func 34) #[.pointer (some ⟨b, 0, none⟩)] #[], .int .i64 (j : Nat)] 89)
      have hl := heap_lt hb
      generalize wr.alloc (.cells #[.func (.func 33) #[.pointer (some ⟨b, 0, none⟩)] #[], .func (.func 34) #[.pointer (some ⟨b, 0, none⟩)] #[], .int .i64 (j : Nat)] 89) = W at *
      generalize wr.heap.size = g at *
      have x1 : W.cell? ⟨g, 1, none⟩ = some (.func (.func 34) #[.pointer (some ⟨b, 0, none⟩)] #[]) := by rw [cell_at hb]; rfl
      have x2 : W.cell? ⟨g, 2, none⟩ = some (.int .i64 (j : Nat)) := by rw [cell_at hb]; rfl
      have HT2 := Lib.hid T2
      clear hb T2
      generalize hx : (B.insS a k).in1V 2 j = xv at *
      have HX := Lib.hid hx
      clear hx
      go_wp2_with fail
      refine (inPort_hp HT2.out j).mono ?_
      rintro e w2 ⟨rfl, T3⟩
      rw [← HS1.out] at T3
      rw [HX.out]
      have HT3 := Lib.hid T3
      obtain ⟨hv0, hv1⟩ := hvb
      clear T3
      go_wp2_with fail
      go_roundw
      case rel =>
       refine ⟨k + 1, by omega, by go_num, ?_, HN.out, HT3.out⟩
       rw [or_at2 (B.insV a k) k xv HV.out hv0 hv1 (by omega), HVV.out, HP.out]
      case measure => (simp [intOf]) <;> omega
     ·have HS1 := Lib.hid hs
      have HJ := Lib.hid hj
      clear hs hk5 hj
      simp only [outF, inF] at lk
      go_upto_region 14 with (fail)
      clear lk k0 k1 k2 k3 k4 k5 k6 k7 kf kl
      have T2 := HT1.out.alloc (.cells #[.func (.func 35) #[.pointer (some ⟨b, 0, none⟩)] #[], .func (.func 36) #[.pointer (some ⟨b, 0, none⟩)] #[], .int .i64 (j : Nat)] 89)
      have hb := heap_new wr (.cells #[.func (.func 35) #[.pointer (some ⟨b, 0, none⟩)] #[], .func (.func 36) #[.pointer (some ⟨b, 0, none⟩)] #[], .int .i64 (j : Nat)] 89)
      have hl := heap_lt hb
      generalize wr.alloc (.cells #[.func (.func 35) #[.pointer (some ⟨b, 0, none⟩)] #[], .func (.func 36) #[.pointer (some ⟨b, 0, none⟩)] #[], .int .i64 (j : Nat)] 89) = W at *
      generalize wr.heap.size = g at *
      have x1 : W.cell? ⟨g, 1, none⟩ = some (.func (.func 36) #[.pointer (some ⟨b, 0, none⟩)] #[]) := by rw [cell_at hb]; rfl
      have x2 : W.cell? ⟨g, 2, none⟩ = some (.int .i64 (j : Nat)) := by rw [cell_at hb]; rfl
      have HT2 := Lib.hid T2
      clear hb T2
      generalize hx : (B.insS a k).in1V 3 j = xv at *
      have HX := Lib.hid hx
      clear hx
      go_wp2_with fail
      refine (inDrive_hp HT2.out j).mono ?_
      rintro e w2 ⟨rfl, T3⟩
      rw [← HS1.out] at T3
      rw [HX.out]
      have HT3 := Lib.hid T3
      obtain ⟨hv0, hv1⟩ := hvb
      clear T3
      go_wp2_with fail
      go_roundw
      case rel =>
       refine ⟨k + 1, by omega, by go_num, ?_, HN.out, HT3.out⟩
       rw [or_at2 (B.insV a k) k xv HV.out hv0 hv1 (by omega), HVV.out, HP.out]
      case measure => (simp [intOf]) <;> omega
     ·have HS1 := Lib.hid hs
      have HJ := Lib.hid hj
      clear hs hk5 hj
      simp only [outF, inF] at lk
      go_upto_region 14 with (fail)
      clear lk k0 k1 k2 k3 k4 k5 k6 k7 kf kl
      have T2 := HT1.out.alloc (.cells #[.func (.func 37) #[.pointer (some ⟨b, 0, none⟩)] #[], .func (.func 38) #[.pointer (some ⟨b, 0, none⟩)] #[], .int .i64 (j : Nat)] 89)
      have hb := heap_new wr (.cells #[.func (.func 37) #[.pointer (some ⟨b, 0, none⟩)] #[], .func (.func 38) #[.pointer (some ⟨b, 0, none⟩)] #[], .int .i64 (j : Nat)] 89)
      have hl := heap_lt hb
      generalize wr.alloc (.cells #[.func (.func 37) #[.pointer (some ⟨b, 0, none⟩)] #[], .func (.func 38) #[.pointer (some ⟨b, 0, none⟩)] #[], .int .i64 (j : Nat)] 89) = W at *
      generalize wr.heap.size = g at *
      have x1 : W.cell? ⟨g, 1, none⟩ = some (.func (.func 38) #[.pointer (some ⟨b, 0, none⟩)] #[]) := by rw [cell_at hb]; rfl
      have x2 : W.cell? ⟨g, 2, none⟩ = some (.int .i64 (j : Nat)) := by rw [cell_at hb]; rfl
      have HT2 := Lib.hid T2
      clear hb T2
      generalize hx : (B.insS a k).in1V 4 j = xv at *
      have HX := Lib.hid hx
      clear hx
      go_wp2_with fail
      refine (inGate_hp HT2.out j).mono ?_
      rintro e w2 ⟨rfl, T3⟩
      rw [← HS1.out] at T3
      rw [HX.out]
      have HT3 := Lib.hid T3
      obtain ⟨hv0, hv1⟩ := hvb
      clear T3
      go_wp2_with fail
      go_roundw
      case rel =>
       refine ⟨k + 1, by omega, by go_num, ?_, HN.out, HT3.out⟩
       rw [or_at2 (B.insV a k) k xv HV.out hv0 hv1 (by omega), HVV.out, HP.out]
      case measure => (simp [intOf]) <;> omega
   ·have hk2 : k = s := by omega
    subst hk2
    have HT2 := Lib.hid T
    clear T
    go_wp2_with fail
    have T2 : Hp w0 A0 wr (busObs b pp pt pu pi pm mp (B.wideS a k)) := by
     show Hp _ _ _ (busObs _ _ _ _ _ _ _ (if a = 496 then _ else B.insS a k)); rw [if_neg H9.out]; exact HT2.out
    refine (lines_hp (Bs.wideS_ok HO.out a k).1 T2).mono ?_
    rintro e w2 ⟨rfl, T3⟩
    go_wp2_with fail
    go_ret2
    exact ⟨congrArg (fun x : Nat => Ending.returned (Value.tuple #[.int .u32 (x : Int), .int .i64 0])) (if_neg H9.out : B.wideV a k = _).symm, T3⟩
end
end Go.Proofs.YtojmpdddfnkffaaGreat

/- A slice that starts anywhere in a block of the call's own: appended to, resliced. -/
namespace Go.Proofs.YtojmpdddfnkffaaGreat
open Go.RowKit
set_option linter.unusedVariables false

def puts (cur : Array Value) : Nat → List Value → Array Value
 | _, [] => cur
 | k, v :: vs => puts (cur.setIfInBounds k v) (k + 1) vs
theorem puts_size (vs : List Value) : ∀ (k : Nat) (cur : Array Value), (puts cur k vs).size = cur.size := by
 induction vs with
 | nil => intro k cur; rfl
 | cons v vs ih => intro k cur; show (puts _ _ vs).size = _; rw [ih]; simp
theorem puts_at (vs : List Value) : ∀ (k : Nat) (cur : Array Value), k + vs.length ≤ cur.size → ∀ i, (puts cur k vs)[i]? = if k ≤ i ∧ i < k + vs.length then vs[i - k]? else cur[i]? := by
 induction vs with
 | nil => intro k cur _ i; rw [if_neg (by simp only [List.length_nil]; omega)]; rfl
 | cons v vs ih =>
  intro k cur h i
  have hl : (v :: vs).length = vs.length + 1 := rfl
  show (puts (cur.setIfInBounds k v) (k + 1) vs)[i]? = _
  rw [ih (k + 1) _ (by simp; omega) i, Array.getElem?_setIfInBounds]
  by_cases e : i = k
  ·subst e
   rw [if_neg (by omega), if_pos rfl, if_pos (by omega), if_pos (by omega), Nat.sub_self]; rfl
  ·by_cases e2 : k + 1 ≤ i ∧ i < k + 1 + vs.length
   ·rw [if_pos e2, if_pos (by omega), show i - k = (i - (k + 1)) + 1 by omega, List.getElem?_cons_succ]
   ·rw [if_neg e2, if_neg (fun x => e x.symm), if_neg (by omega)]
theorem setCells_heap (b : Nat) {T : TypeId} {fz : Nat × Nat} (vs : List Value) : ∀ (k : Nat) (w : World) (cur : Array Value), w.heap[b]? = some (.cells cur T fz) → (w.setCells b k vs).heap[b]? = some (.cells (puts cur k vs) T fz) := by
 induction vs with
 | nil => intro k w cur h; exact h
 | cons v vs ih => intro k w cur h; exact ih (k + 1) _ _ (heap_set_same v h)
theorem setCells_keeps (b : Nat) (vs : List Value) : ∀ (k : Nat) (w : World), Keeps (· = b) w (w.setCells b k vs) := by
 induction vs with
 | nil => intro k w; exact Keeps.refl _ _
 | cons v vs ih => intro k w; exact ((Keeps.refl (· = b) w).setOne k v).trans (ih (k + 1) _)

def RowC (w : World) (e : TypeId) (size : Nat) (v : Value) (n : Nat) (xs : List Value) : Prop :=
 xs.length = n * size ∧ ((v = .slice none 0 0 ∧ n = 0) ∨ ∃ g o cap cur, v = .slice (some ⟨g, o, none⟩) n cap ∧ w.heap[g]? = some (.cells cur e (0, 0)) ∧ n ≤ cap ∧ cap ≤ maxLen ∧ o + cap * size ≤ cur.size ∧ ∀ j, j < n * size → cur[o + j]? = xs[j]?)
section
variable {w w' : World} {e : TypeId} {size : Nat} {v : Value} {n : Nat} {xs : List Value}
theorem RowC.nil (w : World) (e : TypeId) (size : Nat) : RowC w e size (.slice none 0 0) 0 [] := ⟨by simp, .inl ⟨rfl, rfl⟩⟩
theorem RowC.own {B : Nat} (h : w.ownsRow B e size v n xs) : RowC w e size v n xs := by
 refine ⟨h.1, h.2.imp id ?_⟩
 rintro ⟨g, cap, cur, rfl, hb, hg, h1, h2, h3, h4⟩
 refine ⟨g, 0, cap, cur, rfl, hg, h1, h2, by omega, fun j hj => ?_⟩
 rw [Nat.zero_add, ← h4, List.getElem?_take, if_pos hj, Array.getElem?_toList]
theorem RowC.len (h : RowC w e size v n xs) : ∃ a c, v = .slice a n c := by
 rcases h.2 with ⟨rfl, rfl⟩ | ⟨g, o, cap, cur, rfl, _⟩
 ·exact ⟨_, _, rfl⟩
 ·exact ⟨_, _, rfl⟩
theorem RowC.lt (h : RowC w e size v n xs) {k : Nat} (hk : v.ownBlock = some k) : k < w.heap.size := by
 rcases h.2 with ⟨rfl, rfl⟩ | ⟨g, o, cap, cur, rfl, hg, _⟩
 ·cases hk
 ·injection hk with hk; subst hk; exact heap_lt hg
theorem RowC.block (h : RowC w e size v n xs) {k : Nat} (hk : v.ownBlock = some k) : ∃ cur, w.heap[k]? = some (.cells cur e (0, 0)) := by
 rcases h.2 with ⟨rfl, rfl⟩ | ⟨g, o, cap, cur, rfl, hg, _⟩
 ·cases hk
 ·injection hk with hk; subst hk; exact ⟨_, hg⟩
theorem RowC.of_heap (h : RowC w e size v n xs) (hh : ∀ k, v.ownBlock = some k → w'.heap[k]? = w.heap[k]?) : RowC w' e size v n xs := by
 refine ⟨h.1, h.2.imp id ?_⟩
 rintro ⟨g, o, cap, cur, rfl, hg, r⟩
 exact ⟨g, o, cap, cur, rfl, by rw [hh g rfl]; exact hg, r⟩
theorem RowC.alloc (h : RowC w e size v n xs) (o : Obj) : RowC (w.alloc o) e size v n xs := h.of_heap fun k hk => Below.heap_alloc _ _ _ (h.lt hk)
theorem RowC.cell (h : RowC w e size v n xs) {j : Nat} {u : Value} (hj : xs[j]? = some u) : ∃ g o cap, v = .slice (some ⟨g, o, none⟩) n cap ∧ w.cell? ⟨g, o + j, none⟩ = some u ∧ g < w.heap.size := by
 have hlt : j < n * size := by rw [← h.1]; exact (List.getElem?_eq_some_iff.1 hj).1
 rcases h.2 with ⟨rfl, rfl⟩ | ⟨g, o, cap, cur, rfl, hg, h1, h2, h3, h4⟩
 ·simp at hlt
 ·exact ⟨g, o, cap, rfl, by rw [cell_at hg, h4 j hlt]; exact hj, heap_lt hg⟩
end
section
variable {P : Program} {w : World} {e : TypeId} {v : Value} {n : Nat} {xs : List Value}
theorem run_append_c (t ty : TypeId) (i : TypeInfo) (z : Value) (size bytes : Nat) (ht : P.underlying t = some (.slice e)) (hi : P.info? e = some i) (hz : i.zero = some z) (hsize : i.size = size) (hby : i.bytes = bytes) (hzs : z.cells.size = size) (hsz : 0 < size)
    (h : RowC w e size v n xs) (a : Addr) (c : Nat) (news : List Value) (hl : news.length = 1 * size) (hnews : ∀ j u, news[j]? = some u → w.cell? (a.add j) = some u) (h1 : ∀ u ∈ news, u.oneCell' = true) (hm : n + 1 ≤ maxLen) (hb : (n + 1) * bytes ≤ 140737488355328) :
    ∃ v' w', (Builtin.append_ #[t, t] ty #[v, .slice (some a) 1 c]).run P w = .ok v' w' ∧ RowC w' e size v' (n + 1) (xs ++ news) ∧ w.grownBy w' v.ownBlock ∧ ∀ k, v'.ownBlock = some k → v.ownBlock = some k ∨ w.heap.size ≤ k := by
 rcases h.2 with ⟨rfl, rfl⟩ | ⟨g, o, cap, cur, rfl, hg, h2, h3, h4, h5⟩
 ·have hx : xs = [] := List.eq_nil_of_length_eq_zero (by rw [h.1]; simp)
  subst hx
  obtain ⟨v', w', hr, r1, r2, r3, r4⟩ := run_append_own_at (P := P) w w.heap.size t ty e i z size bytes ht hi hz hsize hby hzs hsz _ 0 [] (World.ownsRow_nil w w.heap.size e size) a 1 c news hl hnews h1 hm hb (Nat.le_refl _)
  exact ⟨v', w', hr, RowC.own r1, r2, fun k hk => .inr (World.ownsRow.lt r1 k hk).1⟩
 ·by_cases hroom : n + 1 ≤ cap
  ·have hnl : news.length = size := by omega
   have hle : (n + 1) * size ≤ cap * size := Nat.mul_le_mul_right _ hroom
   rw [Nat.add_mul, Nat.one_mul] at hle
   have hfree : ∀ j, w.frozen? ⟨g, j, none⟩ = false := fun j => free_at hg
   subst hsize
   have hrun := run_append_room_cells (P := P) w t ty e i ht hi g o n cap a 1 c news hl hnews h1 hroom
    (fun j hj => by rw [cell_at hg, Array.getElem?_eq_getElem (by omega)]; rfl) (fun j _ => hfree _)
   refine ⟨_, _, hrun, ⟨by rw [List.length_append, h.1, hl, Nat.add_mul], .inr ⟨g, o, cap, _, rfl, setCells_heap g news _ w cur hg, hroom, h3, by rw [puts_size]; exact h4, fun j hj => ?_⟩⟩, ?_, fun k hk => .inl hk⟩
   ·rw [puts_at _ _ _ (by omega)]
    rw [Nat.add_mul, Nat.one_mul] at hj
    by_cases e1 : j < n * i.size
    ·rw [if_neg (by omega), List.getElem?_append_left (by rw [h.1]; exact e1)]; exact h5 j e1
    ·rw [if_pos (by omega), List.getElem?_append_right (by rw [h.1]; omega), h.1]
     congr 1; omega
   ·have K := setCells_keeps g news (o + n * i.size) w
    exact ⟨K.os, K.tape, K.output, K.size, fun k hk hne => K.block k hk fun e => hne (by rw [e]; rfl)⟩
  ·have holds : ∀ j u, xs[j]? = some u → w.cell? ((⟨g, o, none⟩ : Addr).add j) = some u := fun j u hj => by
     have hlt : j < n * size := by rw [← h.1]; exact (List.getElem?_eq_some_iff.1 hj).1
     rw [Go.WideShapes.add_plain, cell_at hg, h5 j hlt]; exact hj
   obtain ⟨v', w', hr, r1, r2⟩ := run_append_arg_grows (P := P) w t ty e i z size bytes ht hi hz hsize hby hzs hsz ⟨g, o, none⟩ n cap xs h.1 holds a 1 c news hl hnews (by omega) hm hb
   exact ⟨v', w', hr, RowC.own r1, ⟨r2.os, r2.tape, r2.output, r2.size, fun k hk _ => r2.block k hk (by simp)⟩, fun k hk => .inr (World.ownsRow.lt r1 k hk).1⟩
theorem wpList_append_c {ops : Array Oper} {rest : List Oper} {o : Oper} {b : Act} {Q : Exit → Act → World → Prop} (hgd : o.guard = none) (s x : Operand) (t : TypeId)
    (ho : o.op = .call { callee := .builtin .append, args := #[s, x], argTypes := #[t, t] })
    (i : TypeInfo) (z : Value) (size bytes : Nat) (ht : P.underlying t = some (.slice e)) (hi : P.info? e = some i) (hz : i.zero = some z) (hsize : i.size = size) (hby : i.bytes = bytes) (hzs : z.cells.size = size) (hsz : 0 < size)
    (hs : b.eval s = v) (h : RowC w e size v n xs) (a : Addr) (c : Nat) (news : List Value) (hx : b.eval x = .slice (some a) 1 c) (hl : news.length = 1 * size) (hnews : ∀ j u, news[j]? = some u → w.cell? (a.add j) = some u) (h1 : ∀ u ∈ news, u.oneCell' = true) (hm : n + 1 ≤ maxLen) (hb : (n + 1) * bytes ≤ 140737488355328)
    (hk : ∀ a' c' w', RowC w' e size (.slice a' (n + 1) c') (n + 1) (xs ++ news) → w.grownBy w' v.ownBlock → (∀ k, (Value.slice a' (n + 1) c').ownBlock = some k → v.ownBlock = some k ∨ w.heap.size ≤ k) → wpList P ops Q rest (b.put o.dst (.slice a' (n + 1) c')) w') : wpList P ops Q (o :: rest) b w :=
 wpList_plain hgd fun K hK => by
  obtain ⟨v', w', hr, h2, h3, h4⟩ := run_append_c (P := P) t o.type i z size bytes ht hi hz hsize hby hzs hsz h a c news hl hnews h1 hm hb
  obtain ⟨a', c', rfl⟩ := h2.len
  unfold Oper.wp execOp
  simp only [ho, resolve, invoke, builtin, Sem.run_bind, Sem.run_pure, Result.andThen_ok, List.map_toArray, List.map_cons, List.map_nil, hs, hx, hr]
  exact hK _ _ (hk a' c' w' h2 h3 h4)
theorem run_tail_c (t : TypeId) (size : Nat) (ht : P.underlying t = some (.slice e)) (hs : (sizeOf e).run P w = .ok size w) (h : RowC w e size v (n + 1) xs) :
    ∃ v', (Instr.slice t v (some (.int .i64 1)) none none).run P w = .ok v' w ∧ RowC w e size v' n (xs.drop size) ∧ ∀ k, v'.ownBlock = some k → v.ownBlock = some k := by
 rcases h.2 with ⟨rfl, h0⟩ | ⟨g, o, cap, cur, rfl, hg, h2, h3, h4, h5⟩
 ·cases h0
 ·have hl : (xs.drop size).length = n * size := by rw [List.length_drop, h.1, Nat.add_mul, Nat.one_mul]; omega
  have hdrop : ∀ j, j < n * size → cur[o + size + j]? = (xs.drop size)[j]? := fun j hj => by
   rw [List.getElem?_drop, Nat.add_assoc]
   exact h5 (size + j) (by rw [Nat.add_mul, Nat.one_mul]; omega)
  by_cases hc : cap = 1
  ·subst hc
   have hn : n = 0 := by omega
   subst hn
   refine ⟨.slice (some ⟨g, o, none⟩) 0 0, ?_, ⟨hl, .inr ⟨g, o, 0, cur, rfl, hg, Nat.le_refl _, Nat.zero_le _, by omega, fun j hj => by omega⟩⟩, fun k hk => hk⟩
   simp [Instr.slice, run_underlying ht, Result.andThen, Instr.sliceBounds, Instr.sliceBound, asIntOf, hs]
  ·have hle : (1 : Int) ≤ (n : Int) + 1 := by omega
   have hne : ¬ cap = 1 := hc
   refine ⟨.slice (some ⟨g, o + size, none⟩) n (cap - 1), ?_, ⟨hl, .inr ⟨g, o + size, cap - 1, cur, rfl, hg, by omega, by omega, ?_, fun j hj => hdrop j hj⟩⟩, fun k hk => hk⟩
   ·have ha : (⟨g, o, none⟩ : Addr).add size = ⟨g, o + size, none⟩ := Go.WideShapes.add_plain _ _ _
    simp [Instr.slice, run_underlying ht, Result.andThen, Instr.sliceBounds, Instr.sliceBound, asIntOf, hs, hne, ha, hle]
   ·obtain ⟨c, rfl⟩ : ∃ c, cap = c + 1 := ⟨cap - 1, by omega⟩
    rw [Nat.add_mul, Nat.one_mul] at h4
    rw [Nat.add_sub_cancel]; omega
end
end Go.Proofs.YtojmpdddfnkffaaGreat

/- Objects side by side: one becomes two, some are left, rows. -/
namespace Go.Proofs.YtojmpdddfnkffaaGreat
open Go.RowKit
set_option linter.unusedVariables false

theorem Side.iff : ∀ (os : List Ob) {w : World} {H H' : Nat → Prop}, Side os w H → (∀ k, H' k ↔ H k) → Side os w H'
 | [], w, H, H', S, h => fun k hk => S k ((h k).1 hk)
 | o :: os, w, H, H', S, h => by
  obtain ⟨A, B, a, b, d, e⟩ := S
  exact ⟨A, B, a, b, d, fun k => (h k).trans (e k)⟩
theorem Side.append : ∀ (l1 l2 : List Ob) {w : World} {H : Nat → Prop}, Side (l1 ++ l2) w H → ∃ A B, Side l1 w A ∧ Side l2 w B ∧ (∀ k, A k → ¬ B k) ∧ ∀ k, H k ↔ A k ∨ B k
 | [], l2, w, H, S => ⟨fun _ => False, H, fun _ h => h, S, fun _ h => h.elim, fun k => ⟨.inr, fun h => h.elim False.elim id⟩⟩
 | x :: l1, l2, w, H, S => by
  obtain ⟨C, D, c, d, f, e⟩ := S
  obtain ⟨A, B, a, b, g, h⟩ := Side.append l1 l2 d
  refine ⟨fun k => C k ∨ A k, B, ⟨C, A, c, a, fun k h1 h2 => f k h1 ((h k).2 (.inl h2)), fun k => Iff.rfl⟩, b, fun k h1 h2 => ?_, fun k => ?_⟩
  ·rcases h1 with h1 | h1
   ·exact f k h1 ((h k).2 (.inr h2))
   ·exact g k h1 h2
  ·rw [e k, h k, or_assoc]
theorem Side.join : ∀ (l1 l2 : List Ob) {w : World} {A B : Nat → Prop}, Side l1 w A → Side l2 w B → (∀ k, A k → ¬ B k) → Side (l1 ++ l2) w (fun k => A k ∨ B k)
 | [], l2, w, A, B, a, b, d => Side.iff l2 b fun k => ⟨fun h => h.elim (fun h => (a k h).elim) id, .inr⟩
 | x :: l1, l2, w, A, B, a, b, d => by
  obtain ⟨C, D, c, dd, f, e⟩ := a
  refine ⟨C, fun k => D k ∨ B k, c, Side.join l1 l2 dd b (fun k h => d k ((e k).2 (.inr h))), fun k h1 h2 => ?_, fun k => ?_⟩
  ·rcases h2 with h2 | h2
   ·exact f k h1 h2
   ·exact d k ((e k).2 (.inl h1)) h2
  ·show (A k ∨ B k) ↔ _
   rw [e k, or_assoc]
theorem Side.two (os : List Ob) : ∀ (i : Nat) {x y : Ob} {w : World} {H : Nat → Prop}, os[i]? = some (Ob.all [x, y]) → Side os w H → Side (os.set i x ++ [y]) w H := by
 induction os with
 | nil => intro i x y w H hi S; simp at hi
 | cons o os ih =>
  intro i x y w H hi S
  cases i with
  | zero =>
   have hx : o = Ob.all [x, y] := by simpa using hi
   subst hx
   obtain ⟨A, B, ⟨A1, A2, a1, ⟨A3, A4, a3, a4, f3, e3⟩, f1, e1⟩, b, d, e⟩ := S
   refine ⟨A1, fun k => B k ∨ A3 k, a1, Side.snoc os b a3 (fun k h1 h2 => d k ((e1 k).2 (.inr ((e3 k).2 (.inl h2)))) h1), fun k h1 h2 => ?_, fun k => ?_⟩
   ·rcases h2 with h2 | h2
    ·exact d k ((e1 k).2 (.inl h1)) h2
    ·exact f1 k h1 ((e3 k).2 (.inl h2))
   ·rw [e k, e1 k, e3 k]
    have := a4 k
    constructor
    ·rintro ((h | h | h) | h)
     ·exact .inl h
     ·exact .inr (.inr h)
     ·exact (this h).elim
     ·exact .inr (.inl h)
    ·rintro (h | h | h)
     ·exact .inl (.inl h)
     ·exact .inr h
     ·exact .inl (.inr (.inl h))
  | succ i =>
   obtain ⟨A, B, a, b, d, e⟩ := S
   exact ⟨A, B, a, ih i (by simpa using hi) b, d, e⟩
section
variable {w0 w w' : World} {A0 : Nat → Prop} {os : List Ob} {o x y : Ob}
theorem Hp.two (T : Hp w0 A0 w os) (i : Nat) (h : os[i]? = some (Ob.all [x, y])) : Hp w0 A0 w (os.set i x ++ [y]) := by
 obtain ⟨A, a, M⟩ := T
 exact ⟨A, Side.two os i h a, M⟩
theorem Hp.left {l1 l2 : List Ob} (T : Hp w0 A0 w (l1 ++ l2)) : Hp w0 A0 w l1 := by
 obtain ⟨A, a, M⟩ := T
 obtain ⟨B, C, b, c, d, e⟩ := Side.append l1 l2 a
 exact ⟨B, b, M.1, fun k hk => M.2 k ((e k).2 (.inl hk))⟩
theorem Hp.right {l1 l2 : List Ob} (T : Hp w0 A0 w (l1 ++ l2)) : Hp w0 A0 w l2 := by
 obtain ⟨A, a, M⟩ := T
 obtain ⟨B, C, b, c, d, e⟩ := Side.append l1 l2 a
 exact ⟨C, c, M.1, fun k hk => M.2 k ((e k).2 (.inr hk))⟩
theorem Hp.pack {l1 l2 : List Ob} (T : Hp w0 A0 w (l1 ++ l2)) (h : ∀ A, Side l1 w A → o.P w A) : Hp w0 A0 w (o :: l2) := by
 obtain ⟨A, a, M⟩ := T
 obtain ⟨B, C, b, c, d, e⟩ := Side.append l1 l2 a
 exact ⟨A, ⟨B, C, h B b, c, d, e⟩, M⟩
theorem Hp.open_ {l1 l2 : List Ob} (T : Hp w0 A0 w (Ob.all l1 :: l2)) : Hp w0 A0 w (l1 ++ l2) := by
 obtain ⟨A, ⟨B, C, b, c, d, e⟩, M⟩ := T
 exact ⟨A, Side.iff _ (Side.join l1 l2 b c d) e, M⟩
theorem Hp.alter (T : Hp w0 A0 w os) (i : Nat) (h : os[i]? = some o) (hc : ∀ A, o.P w A → x.P w A) : Hp w0 A0 w (os.set i x) := by
 obtain ⟨A, a, g⟩ := T.turn i h
 exact g _ _ _ (hc A a) (Moves.refl _ _)
end
theorem row_of_heap' {w w' : World} {B : Nat} {E : TypeId} {s n : Nat} {v : Value} {xs : List Value} (h : w.ownsRow B E s v n xs) (hh : ∀ k, v.ownBlock = some k → w'.heap[k]? = w.heap[k]?) : w'.ownsRow B E s v n xs := by
 refine ⟨h.1, ?_⟩
 rcases h.2 with h2 | ⟨g, cap, cur, rfl, hb, hg, r⟩
 ·exact .inl h2
 ·exact .inr ⟨g, cap, cur, rfl, hb, by rw [hh g rfl]; exact hg, r⟩
theorem row_down' {w : World} {B C : Nat} {E : TypeId} {s n : Nat} {v : Value} {xs : List Value} (h : w.ownsRow B E s v n xs) (hBC : C ≤ B) : w.ownsRow C E s v n xs := by
 refine ⟨h.1, ?_⟩
 rcases h.2 with h2 | ⟨g, cap, cur, rfl, hb, hg, r⟩
 ·exact .inl h2
 ·exact .inr ⟨g, cap, cur, rfl, Nat.le_trans hBC hb, hg, r⟩
def oRow (E : TypeId) (v : Value) (n : Nat) (xs : List Value) : Ob := ⟨fun w H => w.ownsRow 0 E 1 v n xs ∧ ∀ k, H k ↔ v.ownBlock = some k,
 fun h g => ⟨row_of_heap' h.1 fun k hk => g k ((h.2 k).2 hk), h.2⟩, fun h k hk => (World.ownsRow.lt h.1 k ((h.2 k).1 hk)).2⟩
end Go.Proofs.YtojmpdddfnkffaaGreat

/- bus: time, what comes, what is told; what was sent, the disk. -/
namespace Go.Proofs.YtojmpdddfnkffaaGreat
open Go.RowKit Go.MapKept
set_option linter.unusedVariables false

def Bs.tick (B : Bs) : Bs := ({ B with t := B.t + 1 } : Bs).lines
def Bs.ticks (B : Bs) : Nat → Bs
 | 0 => B
 | n + 1 => (B.ticks n).tick
def Bs.push (B : Bs) (x : Nat) : Bs := ({ B with u := B.u.push x } : Bs).lines
def Bs.ack (B : Bs) : Bs := ({ B with c := Pic.tkc B.c B.d, d := Pic.tkd B.c B.d } : Bs).lines
def Bs.quit (B : Bs) : Bs := { B with u := B.u.quit }
theorem Tm3.later {T : Tm3} {t t' : Int} (h : T.ok t) (ht : t ≤ t') : T.ok t' := ⟨Pit.Ct.later h.a ht, Pit.Ct.later h.b ht, Pit.Ct.later h.c ht⟩
theorem Bs.tick_ok {B : Bs} (h : B.ok) (ht : B.t + 1 < 18446744073709551615) : B.tick.ok := lines_ok ⟨Tm3.later h.T (by show (B.t : Int) ≤ ((B.t + 1 : Nat) : Int); omega), ht⟩
theorem Bs.ticks_ok {B : Bs} (h : B.ok) : ∀ n, B.t + n < 18446744073709551615 → (B.ticks n).ok ∧ (B.ticks n).t = B.t + n
 | 0, ht => ⟨h, rfl⟩
 | n + 1, ht => by
  have ih := ticks_ok h n (by omega)
  exact ⟨tick_ok ih.1 (by omega), by show (B.ticks n).t + 1 = _; omega⟩
section
variable {b pp pt pu pi pm mp : Nat} {B : Bs} {w0 w : World} {A0 : Nat → Prop}
theorem push_hp (h : B.ok) (T : Hp w0 A0 w (busObs b pp pt pu pi pm mp B)) (x : Nat) (hx : x < 256) :
    Calls Tryz.prog 48 #[.pointer (some ⟨b, 0, none⟩), .int .u8 (x : Nat)] w fun e w' => e = .returned (.tuple #[]) ∧ Hp w0 A0 w' (busObs b pp pt pu pi pm mp (B.push x)) := by
 have HO := Lib.hid h
 clear h
 obtain ⟨k0, k1, k2, k3, k4, k5, k6, k7, kf, kl⟩ := bus_facts T.bus
 go_enter Tryz.func48, Tryz.ntmps48
 go_wp2_with fail
 refine (T.act 3 rfl (uart_push x hx)).mono ?_
 rintro e w1 ⟨rfl, T1⟩
 have T2 : Hp w0 A0 w1 (busObs b pp pt pu pi pm mp { B with u := B.u.push x }) := T1
 clear T1
 go_wp2_with fail
 refine (lines_hp (B := { B with u := B.u.push x }) ⟨HO.out.T, HO.out.t⟩ T2).mono ?_
 rintro e w2 ⟨rfl, T3⟩
 go_wp2_with fail
 go_returns
 exact ⟨rfl, T3⟩
theorem ack_hp (h : B.ok) (T : Hp w0 A0 w (busObs b pp pt pu pi pm mp B)) :
    Calls Tryz.prog 22 #[.pointer (some ⟨b, 0, none⟩)] w fun e w' => e = .returned (.int .i64 (Pic.vec0 B.c B.d : Nat)) ∧ Hp w0 A0 w' (busObs b pp pt pu pi pm mp B.ack) := by
 have HO := Lib.hid h
 clear h
 obtain ⟨k0, k1, k2, k3, k4, k5, k6, k7, kf, kl⟩ := bus_facts T.bus
 go_enter Tryz.func22, Tryz.ntmps22
 go_wp2_with fail
 refine (T.act 1 rfl pic_ack).mono ?_
 rintro e w1 ⟨rfl, T1⟩
 have T2 : Hp w0 A0 w1 (busObs b pp pt pu pi pm mp { B with c := Pic.tkc B.c B.d, d := Pic.tkd B.c B.d }) := T1
 clear T1
 go_wp2_with fail
 refine (lines_hp (B := { B with c := Pic.tkc B.c B.d, d := Pic.tkd B.c B.d }) ⟨HO.out.T, HO.out.t⟩ T2).mono ?_
 rintro e w2 ⟨rfl, T3⟩
 go_wp2_with fail
 go_ret
 exact ⟨rfl, T3⟩
theorem pending_hp (T : Hp w0 A0 w (busObs b pp pt pu pi pm mp B)) :
    Calls Tryz.prog 11 #[.pointer (some ⟨b, 0, none⟩)] w fun e w' => e = .returned (.bool (Pic.told0 B.c B.d)) ∧ Hp w0 A0 w' (busObs b pp pt pu pi pm mp B) := by
 obtain ⟨k0, k1, k2, k3, k4, k5, k6, k7, kf, kl⟩ := bus_facts T.bus
 go_enter Tryz.func11, Tryz.ntmps11
 go_wp2_with fail
 refine (T.act 1 rfl pic_pending).mono ?_
 rintro e w1 ⟨rfl, T1⟩
 go_wp2_with fail
 go_ret
 exact ⟨rfl, T1⟩
theorem now_hp (T : Hp w0 A0 w (busObs b pp pt pu pi pm mp B)) :
    Calls Tryz.prog 13 #[.pointer (some ⟨b, 0, none⟩)] w fun e w' => e = .returned (.int .u64 (B.t : Nat)) ∧ w = w' := by
 obtain ⟨k0, k1, k2, k3, k4, k5, k6, k7, kf, kl⟩ := bus_facts T.bus
 go_enter Tryz.func13, Tryz.ntmps13
 go_wp2_with fail
 go_ret
 exact ⟨rfl, rfl⟩
theorem tick_hp (h : B.ok) (T : Hp w0 A0 w (busObs b pp pt pu pi pm mp B)) (n : Int) (hn : n < 9223372036854775808) (ht : B.t + n.toNat < 18446744073709551615) :
    Calls Tryz.prog 21 #[.pointer (some ⟨b, 0, none⟩), .int .i64 n] w fun e w' => e = .returned (.tuple #[]) ∧ Hp w0 A0 w' (busObs b pp pt pu pi pm mp (B.ticks n.toNat)) := by
 have HO := Lib.hid h
 have HT := Lib.hid T
 have HN := Lib.hid (And.intro hn ht)
 clear h T hn ht
 go_enter Tryz.func21, Tryz.ntmps21
 go_wp2_with fail
 go_loopw [1] (fun i wr => ∃ (k : Nat) (m : Int), m = n - k ∧ k ≤ n.toNat ∧ i = .int .i64 m ∧ Hp w0 A0 wr (busObs b pp pt pu pi pm mp (B.ticks k))) (fun i _ => (intOf i).toNat)
 case atStart => exact ⟨0, n, by omega, by omega, rfl, HT.out⟩
 case round =>
  rename_i wr
  obtain ⟨k, m, hm, hk, rfl, T⟩ := hrel
  have HTT := Lib.hid T
  have HM := Lib.hid (And.intro hm hk)
  by_cases hlt : 0 < m
  ·have hkn : k < n.toNat := by omega
   have HKN := Lib.hid hkn
   have ok := Bs.ticks_ok HO.out k (by have := HN.out.2; omega)
   have hw2 : IntKind.i64.wrap (m - 1) = m - 1 := IntWalk.i64_in _ (by have := HN.out.1; omega)
   clear hm hk hkn
   have OK := Lib.hid ok
   obtain ⟨tk, htk⟩ : ∃ tk, tk = (B.ticks k).t := ⟨_, rfl⟩
   have htb := Lib.hid (show (tk : Int) < 18446744073709551614 by have := HN.out.2; have := HKN.out; rw [htk, ok.2]; omega)
   have hw1 : IntKind.u64.wrap ((tk : Int) + 1) = (tk : Int) + 1 := IntWalk.u64_in _ (by have := htb.out; omega)
   obtain ⟨k0, k1, k2, k3, k4, k5, k6, k7, kf, kl⟩ := bus_facts T.bus
   rw [← htk] at k6
   have HTK := Lib.hid htk
   have T1 : Hp w0 A0 (wr.setCell ⟨b, 6, none⟩ (.int .u64 ((tk : Int) + 1))) (busObs b pp pt pu pi pm mp { B.ticks k with t := tk + 1 }) := T.set 0 rfl 6 (.int .u64 ((tk : Int) + 1))
   have HT1 := Lib.hid T1
   clear T T1 htk ok
   go_upto_region 4 with (fail)
   clear k0 k1 k2 k3 k4 k5 k6 k7 kf kl
   go_wp2_with fail
   refine (lines_hp (B := { B.ticks k with t := tk + 1 }) ⟨Tm3.later OK.out.1.T (by show ((B.ticks k).t : Int) ≤ ((tk + 1 : Nat) : Int); rw [← HTK.out]; omega), by show tk + 1 < _; have := htb.out; omega⟩ HT1.out).mono ?_
   rintro e w2 ⟨rfl, T3⟩
   have T4 : Hp w0 A0 w2 (busObs b pp pt pu pi pm mp (B.ticks (k + 1))) := by
    have e : (B.ticks (k + 1)) = ({ B.ticks k with t := tk + 1 } : Bs).lines := by rw [HTK.out]; rfl
    rw [e]; exact T3
   have HT4 := Lib.hid T4
   clear T3 T4
   go_wp2_with fail
   go_roundw
   case rel => exact ⟨k + 1, m - 1, by have := HM.out; omega, by have := HKN.out; omega, rfl, HT4.out⟩
   case measure => (simp [intOf]) <;> omega
  ·have hz : m ≤ 0 := by omega
   have hk2 : k = n.toNat := by omega
   have HK2 := Lib.hid hk2
   clear T hk2 hm hk hlt
   go_wp2_with fail
   go_returns
   exact ⟨rfl, by rw [← HK2.out]; exact HTT.out⟩
end
end Go.Proofs.YtojmpdddfnkffaaGreat

/- bus: New: its ports are laid. -/
namespace Go.Proofs.YtojmpdddfnkffaaGreat
open Go.RowKit Go.MapKept
set_option linter.unusedVariables false

theorem Side.front {o : Ob} : ∀ (os : List Ob) (i : Nat) {w : World} {H : Nat → Prop}, os[i]? = some o → Side os w H → Side (o :: os.eraseIdx i) w H
 | [], i, w, H, hi, S => by simp at hi
 | x :: os, 0, w, H, hi, S => by
  have hx : x = o := by simpa using hi
  subst hx
  exact S
 | x :: os, i + 1, w, H, hi, S => by
  obtain ⟨A, B, a, b, d, e⟩ := S
  obtain ⟨C, D, c, dd, f, g⟩ := Side.front os i (by simpa using hi) b
  refine ⟨C, fun k => A k ∨ D k, c, ⟨A, D, a, dd, fun k h1 h2 => d k h1 ((g k).2 (.inr h2)), fun k => Iff.rfl⟩, fun k h1 h2 => ?_, fun k => ?_⟩
  ·rcases h2 with h2 | h2
   ·exact d k h2 ((g k).2 (.inl h1))
   ·exact f k h1 h2
  ·rw [e k, g k]
   constructor
   ·rintro (h | h | h)
    ·exact .inr (.inl h)
    ·exact .inl h
    ·exact .inr (.inr h)
   ·rintro (h | h | h)
    ·exact .inr (.inl h)
    ·exact .inl h
    ·exact .inr (.inr h)
theorem Hp.front {w0 w : World} {A0 : Nat → Prop} {os : List Ob} {o : Ob} (T : Hp w0 A0 w os) (i : Nat) (h : os[i]? = some o) : Hp w0 A0 w (o :: os.eraseIdx i) := by
 obtain ⟨A, a, M⟩ := T
 exact ⟨A, Side.front os i h a, M⟩
theorem Hp.one {w : World} {A : Nat → Prop} {o : Ob} (h : o.P w A) : Hp w A w [o] := ⟨A, ⟨A, fun _ => False, h, fun _ h => h, fun _ _ h => h, fun k => ⟨.inl, fun h => h.elim id False.elim⟩⟩, Moves.refl _ _⟩
theorem Hp.un {w0 w : World} {A0 : Nat → Prop} {o : Ob} (T : Hp w0 A0 w [o]) : ∃ A, o.P w A ∧ Moves A0 A w0 w := by
 obtain ⟨A, ⟨B, C, b, c, d, e⟩, M⟩ := T
 exact ⟨B, b, M.1, fun k hk => M.2 k ((e k).2 (.inl hk))⟩
def oBus (b pm : Nat) (B : Bs) : Ob := Ob.any fun x : Nat × Nat × Nat × Nat × Nat => Ob.all (busObs b x.1 x.2.1 x.2.2.1 x.2.2.2.1 pm x.2.2.2.2 B)
theorem acts_bus {f : FuncId} {args : Array Value} {r : Value} {b pm : Nat} {B B' : Bs}
    (h : ∀ (w0 w : World) (A0 : Nat → Prop) (pp pt pu pi mp : Nat), Hp w0 A0 w (busObs b pp pt pu pi pm mp B) → Calls Tryz.prog f args w fun e w' => e = .returned r ∧ Hp w0 A0 w' (busObs b pp pt pu pi pm mp B')) : Acts f args (oBus b pm B) r (oBus b pm B') := by
 rintro w A ⟨⟨pp, pt, pu, pi, mp⟩, a⟩
 refine (h w w A pp pt pu pi mp (Hp.start a)).mono ?_
 rintro e w' ⟨rfl, T⟩
 obtain ⟨A', a', M⟩ := T.end_
 exact ⟨rfl, A', ⟨(pp, pt, pu, pi, mp), a'⟩, M⟩
theorem Hp.toBus {w0 w : World} {A0 : Nat → Prop} {b pp pt pu pi pm mp : Nat} {B : Bs} {os : List Ob} (T : Hp w0 A0 w (busObs b pp pt pu pi pm mp B ++ os)) : Hp w0 A0 w (oBus b pm B :: os) :=
 T.pack fun A a => ⟨(pp, pt, pu, pi, mp), a⟩
section
variable {b pm : Nat} {B : Bs}
theorem bus_out (h : B.ok) (hf : B.fits 1000000) (a s v : Nat) (ha : a < 65536) (hs : s = 1 ∨ s = 2 ∨ s = 4) (hv : v < 4294967296) :
    Acts 18 #[.pointer (some ⟨b, 0, none⟩), .int .u16 (a : Nat), .int .i64 (s : Nat), .int .u32 (v : Nat)] (oBus b pm B) (.int .i64 0) (oBus b pm (B.out a s v)) :=
 acts_bus fun w0 w A0 pp pt pu pi mp T => out_hp h hf T a s v ha hs hv
theorem bus_in (h : B.ok) (a s : Nat) (ha : a < 65536) (hs : s = 1 ∨ s = 2 ∨ s = 4) :
    Acts 20 #[.pointer (some ⟨b, 0, none⟩), .int .u16 (a : Nat), .int .i64 (s : Nat)] (oBus b pm B) (.tuple #[.int .u32 (B.wideV a s : Nat), .int .i64 0]) (oBus b pm (B.inS a s)) :=
 acts_bus fun w0 w A0 pp pt pu pi mp T => in_hp h T a s ha hs
theorem bus_tick (h : B.ok) (n : Int) (hn : n < 9223372036854775808) (ht : B.t + n.toNat < 18446744073709551615) :
    Acts 21 #[.pointer (some ⟨b, 0, none⟩), .int .i64 n] (oBus b pm B) (.tuple #[]) (oBus b pm (B.ticks n.toNat)) :=
 acts_bus fun w0 w A0 pp pt pu pi mp T => tick_hp h T n hn ht
theorem bus_push (h : B.ok) (x : Nat) (hx : x < 256) : Acts 48 #[.pointer (some ⟨b, 0, none⟩), .int .u8 (x : Nat)] (oBus b pm B) (.tuple #[]) (oBus b pm (B.push x)) :=
 acts_bus fun w0 w A0 pp pt pu pi mp T => push_hp h T x hx
theorem bus_ack (h : B.ok) : Acts 22 #[.pointer (some ⟨b, 0, none⟩)] (oBus b pm B) (.int .i64 (Pic.vec0 B.c B.d : Nat)) (oBus b pm B.ack) :=
 acts_bus fun w0 w A0 pp pt pu pi mp T => ack_hp h T
theorem bus_pending : Acts 11 #[.pointer (some ⟨b, 0, none⟩)] (oBus b pm B) (.bool (Pic.told0 B.c B.d)) (oBus b pm B) :=
 acts_bus fun w0 w A0 pp pt pu pi mp T => pending_hp T
theorem bus_now : Acts 13 #[.pointer (some ⟨b, 0, none⟩)] (oBus b pm B) (.int .u64 (B.t : Nat)) (oBus b pm B) :=
 acts_bus fun w0 w A0 pp pt pu pi mp T => by
  refine (now_hp T).mono ?_
  rintro e w1 ⟨rfl, rfl⟩
  exact ⟨rfl, T⟩
theorem bus_write (a v : Nat) (ha : a < 4294967296) (hv : v < 4294967296) (s : Nat) (hs : s = 1 ∨ s = 2 ∨ s = 4) : Acts 14 #[.pointer (some ⟨pm, 0, .none⟩), .int .u32 a, .int .i64 (s : Nat), .int .u32 v] (oBus b pm B) (.int .i64 0) (oBus b pm { B with R := B.R.write a v s }) :=
 acts_bus fun w0 w A0 pp pt pu pi mp T => T.act 5 rfl (ram_write a v ha hv s hs)
theorem bus_read (a : Nat) (ha : a < 4294967296) (s : Nat) (hs : s = 1 ∨ s = 2 ∨ s = 4) : Acts 15 #[.pointer (some ⟨pm, 0, .none⟩), .int .u32 a, .int .i64 (s : Nat)] (oBus b pm B) (.tuple #[.int .u32 (B.R.read a s : Nat), .int .i64 0]) (oBus b pm B) :=
 acts_bus fun w0 w A0 pp pt pu pi mp T => T.act 5 rfl (ram_read a ha s hs)
end
def laid (first from_ n : Nat) (fo fi : Value) (f : Nat → Option Value) : Nat → Option Value := fun p => if first ≤ p ∧ p < first + n then some (.agg #[fo, fi, .int .i64 ((from_ + (p - first) : Nat) : Int)]) else f p
theorem laid_zero (first from_ : Nat) (fo fi : Value) (f : Nat → Option Value) (p : Nat) : laid first from_ 0 fo fi f p = f p := if_neg (by omega)
theorem laid_succ (first from_ n : Nat) (fo fi : Value) (f : Nat → Option Value) (p : Nat) : laid first from_ (n + 1) fo fi f p = if p = first + n then some (.agg #[fo, fi, .int .i64 ((from_ + n : Nat) : Int)]) else laid first from_ n fo fi f p := by
 unfold laid
 by_cases h : p = first + n
 ·subst h
  rw [if_pos rfl, if_pos (by omega), show first + n - first = n by omega]
 ·rw [if_neg h]
  by_cases h2 : first ≤ p ∧ p < first + n
  ·rw [if_pos h2, if_pos (by omega)]
  ·rw [if_neg h2, if_neg (by omega)]
theorem lay_any {w : World} {x b mp : Nat} (first from_ n : Nat) (fo gi : FuncId) (f : Nat → Option Value) (hx : w.cell? ⟨x, 0, none⟩ = some (.pointer (some ⟨b, 0, none⟩))) (hb : w.cell? ⟨b, 7, none⟩ = some (.map (some mp)))
    (H : MapAt w mp .u16 f) (h1 : x ≠ mp) (h2 : b ≠ mp) (hn : n ≤ 8) (hf : first + n < 65536) (hfr : from_ ≤ 8) :
    Calls Tryz.prog 28 #[.int .u16 (first : Nat), .func (.func fo) #[.pointer (some ⟨b, 0, none⟩)] #[], .func (.func gi) #[.pointer (some ⟨b, 0, none⟩)] #[], .int .i64 (from_ : Nat), .int .i64 (n : Nat), .pointer (some ⟨x, 0, none⟩)] w
     fun e w' => e = .returned (.tuple #[]) ∧ MapAt w' mp .u16 (laid first from_ n (.func (.func fo) #[.pointer (some ⟨b, 0, none⟩)] #[]) (.func (.func gi) #[.pointer (some ⟨b, 0, none⟩)] #[]) f) ∧ Keeps (· = mp) w w' := by
 have HX := Lib.hid (And.intro hx hb)
 have HH := Lib.hid H
 have hxl := World.block_lt_of_cell? _ _ hx
 have hbl := World.block_lt_of_cell? _ _ hb
 clear hx hb H
 go_enter Tryz.func28, Tryz.ntmps28
 go_wp2_with fail
 go_loopw [13] (fun i wr => ∃ k : Nat, k ≤ n ∧ i = .int .i64 k ∧ MapAt wr mp .u16 (laid first from_ k (.func (.func fo) #[.pointer (some ⟨b, 0, none⟩)] #[]) (.func (.func gi) #[.pointer (some ⟨b, 0, none⟩)] #[]) f) ∧ Keeps (· = mp) w wr) (fun i _ => n - (intOf i).toNat)
 case atStart => exact ⟨0, by omega, rfl, HH.out.ext (laid_zero _ _ _ _ _), Keeps.refl _ _⟩
 case round =>
  rename_i wr
  obtain ⟨k, hk, rfl, M, K⟩ := hrel
  by_cases hlt : k < n
  ·have c1 : wr.cell? ⟨x, 0, none⟩ = some (.pointer (some ⟨b, 0, none⟩)) := (World.cell?_of_block (K.block x hxl h1)).trans HX.out.1
   have c2 : wr.cell? ⟨b, 7, none⟩ = some (.map (some mp)) := (World.cell?_of_block (K.block b hbl h2)).trans HX.out.2
   obtain ⟨w4, hup, M4, K4⟩ := M.update (P := Tryz.prog) (t := 82) (k := 41) (e := 89) (by kernel_rfl) (by kernel_rfl) (first + k) ((first : Int) + (k : Int)) (by omega) (.agg #[.func (.func fo) #[.pointer (some ⟨b, 0, none⟩)] #[], .func (.func gi) #[.pointer (some ⟨b, 0, none⟩)] #[], .int .i64 ((from_ : Int) + (k : Int))])
   have HM4 := Lib.hid M4
   have HK4 := Lib.hid (K.trans K4)
   clear M K M4 K4
   go_wp2_with fail
   go_roundw
   case rel => exact ⟨k + 1, by omega, by go_num, HM4.out.ext fun p => by rw [laid_succ, Int.natCast_add], HK4.out⟩
   case measure => (simp [intOf]) <;> omega
  ·have hk2 : k = n := by omega
   subst hk2
   have HM := Lib.hid (And.intro M K)
   clear M K
   go_wp2_with fail
   go_returns
   exact ⟨rfl, HM.out.1, HM.out.2⟩
end Go.Proofs.YtojmpdddfnkffaaGreat

/- bus: New. -/
namespace Go.Proofs.YtojmpdddfnkffaaGreat
open Go.RowKit Go.MapKept
set_option linter.unusedVariables false

def Bs.new (R : RS) (n : Nat) (d : Nat → Nat) : Bs := (Bs.mk Pic.chip0 Pic.chip0 ⟨Pit.ctNew, Pit.ctNew, Pit.ctNew⟩ Uart.Ut.new (Ide.Dk.new n d) true (R.gate true) 0).lines
theorem reads_below {w w' : World} {v : Value} {n : Nat} {d : Nat → Nat} (h : Ide.Reads w v n d) (hb : Below w.heap.size w w') : Ide.Reads w' v n d := by
 obtain ⟨a, c, rfl, h | ⟨b, off, rfl, hl, hc⟩⟩ := h
 ·exact ⟨a, c, rfl, .inl h⟩
 ·exact ⟨_, c, rfl, .inr ⟨b, off, rfl, Nat.lt_of_lt_of_le hl hb.size, fun i hi => (World.cell?_of_block (hb.block b hl)).trans (hc i hi)⟩⟩
def fv (g b : Nat) : Value := .func (.func g) #[.pointer (some ⟨b, 0, none⟩)] #[]
def lay7 (b : Nat) : Nat → Option Value :=
 laid 0x92 0 1 (fv (outF 4) b) (fv (inF 4) b) (laid 0x3F6 8 1 (fv (outF 3) b) (fv (inF 3) b) (laid 0x1F0 0 8 (fv (outF 3) b) (fv (inF 3) b) (laid 0x3F8 0 8 (fv (outF 2) b) (fv (inF 2) b)
  (laid 0x40 0 4 (fv (outF 1) b) (fv (inF 1) b) (laid 0xA0 2 2 (fv (outF 0) b) (fv (inF 0) b) (laid 0x20 0 2 (fv (outF 0) b) (fv (inF 0) b) (fun _ => none)))))))
theorem lay7_prt (b p : Nat) : prt b p = lay7 b p := by
 unfold prt lay7 laid dev fv
 by_cases h1 : 0x20 ≤ p ∧ p < 0x22
 ·rw [if_pos h1]; repeat rw [if_neg (by omega)]
  rw [if_pos (by omega), Nat.zero_add]; rfl
 rw [if_neg h1]
 by_cases h2 : 0xA0 ≤ p ∧ p < 0xA2
 ·rw [if_pos h2]; repeat rw [if_neg (by omega)]
  rw [if_pos (by omega), Nat.add_comm]; rfl
 rw [if_neg h2]
 by_cases h3 : 0x40 ≤ p ∧ p < 0x44
 ·rw [if_pos h3]; repeat rw [if_neg (by omega)]
  rw [if_pos (by omega), Nat.zero_add]; rfl
 rw [if_neg h3]
 by_cases h4 : 0x3F8 ≤ p ∧ p < 0x400
 ·rw [if_pos h4]; repeat rw [if_neg (by omega)]
  rw [if_pos (by omega), Nat.zero_add]; rfl
 rw [if_neg h4]
 by_cases h5 : 0x1F0 ≤ p ∧ p < 0x1F8
 ·rw [if_pos h5]; repeat rw [if_neg (by omega)]
  rw [if_pos (by omega), Nat.zero_add]; rfl
 rw [if_neg h5]
 by_cases h6 : p = 0x3F6
 ·subst h6; rfl
 rw [if_neg h6]
 by_cases h7 : p = 0x92
 ·subst h7; rfl
 rw [if_neg h7]
 repeat rw [if_neg (by omega)]
 rfl
def newObs (b x pp pt pu pi pm mp : Nat) (R : RS) (n : Nat) (d : Nat → Nat) (f : Nat → Option Value) : List Ob :=
 [oRam pm R, oIde pi (Ide.Dk.new n d), oPic pp Pic.chip0 Pic.chip0, oTm pt ⟨Pit.ctNew, Pit.ctNew, Pit.ctNew⟩, oUart pu Uart.Ut.new, oMap mp f, Ob.box b (.cells (busCells pp pt pu pi pm mp true 0) 84), Ob.box x (.cells #[.pointer (some ⟨b, 0, none⟩)] 29)]
section
variable {b x pp pt pu pi pm mp : Nat} {R : RS} {n : Nat} {d : Nat → Nat} {f : Nat → Option Value} {w0 w : World} {A0 : Nat → Prop}
theorem lay_hp (T : Hp w0 A0 w (newObs b x pp pt pu pi pm mp R n d f)) (first from_ m : Nat) (fo gi : FuncId) (hm : m ≤ 8) (hf : first + m < 65536) (hfr : from_ ≤ 8) :
    Calls Tryz.prog 28 #[.int .u16 (first : Nat), fv fo b, fv gi b, .int .i64 (from_ : Nat), .int .i64 (m : Nat), .pointer (some ⟨x, 0, none⟩)] w
     fun e w' => e = .returned (.tuple #[]) ∧ Hp w0 A0 w' (newObs b x pp pt pu pi pm mp R n d (laid first from_ m (fv fo b) (fv gi b) f)) := by
 have hb := T.box 6 rfl
 have hx := T.box 7 rfl
 have hb7 := (bus_facts hb).2.2.2.2.2.2.2.1
 have hx0 : w.cell? ⟨x, 0, none⟩ = some (.pointer (some ⟨b, 0, none⟩)) := by rw [cell_at hx]; rfl
 obtain ⟨A, ⟨M, e⟩, g⟩ := T.turn 5 rfl
 have h1 : x ≠ mp := by
  rintro rfl
  obtain ⟨es, clock, hm, -⟩ := M
  rw [hx] at hm; cases hm
 have h2 : b ≠ mp := by
  rintro rfl
  obtain ⟨es, clock, hm, -⟩ := M
  rw [hb] at hm; cases hm
 refine (lay_any first from_ m fo gi f hx0 hb7 M h1 h2 hm hf hfr).mono ?_
 rintro e' w1 ⟨rfl, M1, K⟩
 exact ⟨rfl, g w1 A (oMap mp (laid first from_ m (fv fo b) (fv gi b) f)) ⟨M1, e⟩ (moves_one e K)⟩
theorem Hp.built (T : Hp w0 A0 w (newObs b x pp pt pu pi pm mp R n d (lay7 b))) : Hp w0 A0 w (busObs b pp pt pu pi pm mp (Bs.mk Pic.chip0 Pic.chip0 ⟨Pit.ctNew, Pit.ctNew, Pit.ctNew⟩ Uart.Ut.new (Ide.Dk.new n d) true R 0) ++ [Ob.box x (.cells #[.pointer (some ⟨b, 0, none⟩)] 29)]) := by
 have T1 := T.alter 5 (x := oMap mp (prt b)) rfl fun A h => ⟨h.1.ext (lay7_prt b), h.2⟩
 have T2 := T1.front 5 rfl
 have T3 := T2.front 1 rfl
 have T4 := T3.front 2 rfl
 have T5 := T4.front 5 rfl
 have T6 := T5.front 5 rfl
 have T7 := T6.front 5 rfl
 exact T7.front 6 rfl
end
theorem mk_map (w : World) : (Instr.makeMap 82 none).run Tryz.prog w = .ok (.map (some w.heap.size)) (w.alloc (.map #[] 0)) := by kernel_rfl
section
variable {pm : Nat} {R : RS} {n : Nat} {d : Nat → Nat} {v : Value} {w0 w : World} {A0 : Nat → Prop}
theorem new_hp (T : Hp w0 A0 w [oRam pm R]) (H : Ide.Reads w v (n * 512) d) (hn : n ≤ 64) (hd : ∀ i, d i < 256) :
    Calls Tryz.prog 6 #[.pointer (some ⟨pm, 0, none⟩), v] w fun e w' => ∃ b, e = .returned (.tuple #[.pointer (some ⟨b, 0, none⟩), .int .i64 0]) ∧ Hp w0 A0 w' [oBus b pm (Bs.new R n d)] := by
 have HT := Lib.hid T
 have HH := Lib.hid (And.intro H (And.intro hn hd))
 obtain ⟨va, vc, rfl, -⟩ := H
 clear T hn hd
 go_enter Tryz.func6, Tryz.ntmps6
 go_wp2_with fail
 refine (Ide.new_yes HH.out.1 HH.out.2.1 HH.out.2.2).mono ?_
 rintro e w1 ⟨pi, ds, rfl, I1, i2, i3, hb1⟩
 have T1 := HT.out.new hb1 (o := oIde pi (Ide.Dk.new n d)) (A := Ide.Held pi ds (.slice none 0 0)) ⟨ds, _, I1, Ide.room_fresh _, fun k => Iff.rfl⟩ (fun k hk => by
  rcases hk with rfl | hk | hk
  ·exact i2
  ·exact i3 k hk
  ·cases hk)
 have HT1 := Lib.hid T1
 clear I1 i2 i3 hb1 T1
 go_wp2_with fail
 refine (Pic.new_any _).mono ?_
 rintro e w2 ⟨rfl, P2, hb2⟩
 have T2 := HT1.out.new hb2 (o := oPic w1.heap.size Pic.chip0 Pic.chip0) (A := fun k => k = w1.heap.size) ⟨P2, ⟨Pic.chip0_ok, Pic.chip0_ok⟩, fun k => Iff.rfl⟩ (fun k hk => by omega)
 generalize w1.heap.size = pp at *
 have HT2 := Lib.hid T2
 clear T2 P2 hb2
 go_wp2_with fail
 refine (Pit.tm_new _).mono ?_
 rintro e w3 ⟨rfl, P3, hb3⟩
 have T3 := HT2.out.new hb3 (o := oTm w2.heap.size ⟨Pit.ctNew, Pit.ctNew, Pit.ctNew⟩) (A := fun k => k = w2.heap.size) ⟨P3, fun k => Iff.rfl⟩ (fun k hk => by omega)
 generalize w2.heap.size = pt at *
 have HT3 := Lib.hid T3
 clear T3 P3 hb3
 go_wp2_with fail
 refine (Uart.new_any _).mono ?_
 rintro e w4 ⟨pu, q, rfl, U4, u1, u2, hb4⟩
 have T4 := HT3.out.new hb4 (o := oUart pu Uart.Ut.new) (A := Uart.Held pu q (.slice none 0 0)) ⟨q, _, U4, fun k => Iff.rfl⟩ (fun k hk => by
  rcases hk with rfl | rfl | hk
  ·exact u1
  ·exact u2
  ·cases hk)
 have T5 := T4.new (w' := w4.alloc (.map #[] 0)) (o := oMap w4.heap.size (fun _ => none)) ((Below.refl _ _).alloc (Nat.le_refl _) _) (A := fun k => k = w4.heap.size) ⟨MapAt.new w4 .u16, fun k => Iff.rfl⟩ (fun k hk => by omega)
 have T6 := T5.make (.cells (busCells pp pt pu pi pm w4.heap.size true 0) 84)
 have T7 := T6.make (.cells #[.pointer (some ⟨(w4.alloc (.map #[] 0)).heap.size, 0, none⟩)] 29)
 simp only [World.size_alloc] at T7
 have HT7 := Lib.hid T7
 clear T4 T5 T6 T7 U4 u1 u2 hb4
 have hmk := mk_map w4
 go_upto_region 7 with (fail)
 have T8 : Hp w0 A0 (((w4.alloc (.map #[] 0)).alloc (.cells #[.pointer (some ⟨pp, 0, none⟩), .pointer (some ⟨pt, 0, none⟩), .pointer (some ⟨pu, 0, none⟩), .pointer (some ⟨pi, 0, none⟩), .pointer (some ⟨pm, 0, none⟩), .bool true, .int .u64 0, .map (some w4.heap.size)] 84)).alloc (.cells #[.pointer (some ⟨w4.heap.size + 1, 0, none⟩)] 29)) (newObs (w4.heap.size + 1) (w4.heap.size + 1 + 1) pp pt pu pi pm w4.heap.size R n d (fun _ => none)) := HT7.out
 clear HT7 hmk HT1 HT2 HT3
 generalize (((w4.alloc (.map #[] 0)).alloc (.cells #[.pointer (some ⟨pp, 0, none⟩), .pointer (some ⟨pt, 0, none⟩), .pointer (some ⟨pu, 0, none⟩), .pointer (some ⟨pi, 0, none⟩), .pointer (some ⟨pm, 0, none⟩), .bool true, .int .u64 0, .map (some w4.heap.size)] 84)).alloc (.cells #[.pointer (some ⟨w4.heap.size + 1, 0, none⟩)] 29)) = W at *
 generalize w4.heap.size + 1 + 1 = x at *
 generalize w4.heap.size + 1 = b at *
 generalize w4.heap.size = mp at *
 go_wp2_with fail
 refine (T8.act 0 rfl (ram_gate true)).mono ?_
 rintro e v0 ⟨rfl, S0⟩
 replace S0 : Hp w0 A0 v0 (newObs b x pp pt pu pi pm mp (R.gate true) n d (fun _ => none)) := S0
 clear T8
 have hx : v0.cell? ⟨x, 0, none⟩ = some (.pointer (some ⟨b, 0, none⟩)) := by rw [cell_at (S0.box 7 rfl)]; rfl
 have HS0 := Lib.hid S0
 clear S0
 go_wp2_with fail
 refine (lay_hp HS0.out 32 0 2 29 30 (by decide) (by decide) (by decide)).mono ?_
 rintro e v1 ⟨rfl, S1⟩
 replace S1 : Hp w0 A0 v1 (newObs b x pp pt pu pi pm mp (R.gate true) n d (laid 32 0 2 (fv (outF 0) b) (fv (inF 0) b) (fun _ => none))) := S1
 clear hx
 have hx : v1.cell? ⟨x, 0, none⟩ = some (.pointer (some ⟨b, 0, none⟩)) := by rw [cell_at (S1.box 7 rfl)]; rfl
 have HS1 := Lib.hid S1
 clear S1
 go_wp2_with fail
 refine (lay_hp HS1.out 160 2 2 29 30 (by decide) (by decide) (by decide)).mono ?_
 rintro e v2 ⟨rfl, S2⟩
 replace S2 : Hp w0 A0 v2 (newObs b x pp pt pu pi pm mp (R.gate true) n d (laid 160 2 2 (fv (outF 0) b) (fv (inF 0) b) (laid 32 0 2 (fv (outF 0) b) (fv (inF 0) b) (fun _ => none)))) := S2
 clear hx
 have hx : v2.cell? ⟨x, 0, none⟩ = some (.pointer (some ⟨b, 0, none⟩)) := by rw [cell_at (S2.box 7 rfl)]; rfl
 have HS2 := Lib.hid S2
 clear S2
 go_wp2_with fail
 refine (lay_hp HS2.out 64 0 4 31 32 (by decide) (by decide) (by decide)).mono ?_
 rintro e v3 ⟨rfl, S3⟩
 replace S3 : Hp w0 A0 v3 (newObs b x pp pt pu pi pm mp (R.gate true) n d (laid 64 0 4 (fv (outF 1) b) (fv (inF 1) b) (laid 160 2 2 (fv (outF 0) b) (fv (inF 0) b) (laid 32 0 2 (fv (outF 0) b) (fv (inF 0) b) (fun _ => none))))) := S3
 clear hx
 have hx : v3.cell? ⟨x, 0, none⟩ = some (.pointer (some ⟨b, 0, none⟩)) := by rw [cell_at (S3.box 7 rfl)]; rfl
 have HS3 := Lib.hid S3
 clear S3
 go_wp2_with fail
 refine (lay_hp HS3.out 1016 0 8 33 34 (by decide) (by decide) (by decide)).mono ?_
 rintro e v4 ⟨rfl, S4⟩
 replace S4 : Hp w0 A0 v4 (newObs b x pp pt pu pi pm mp (R.gate true) n d (laid 1016 0 8 (fv (outF 2) b) (fv (inF 2) b) (laid 64 0 4 (fv (outF 1) b) (fv (inF 1) b) (laid 160 2 2 (fv (outF 0) b) (fv (inF 0) b) (laid 32 0 2 (fv (outF 0) b) (fv (inF 0) b) (fun _ => none)))))) := S4
 clear hx
 have hx : v4.cell? ⟨x, 0, none⟩ = some (.pointer (some ⟨b, 0, none⟩)) := by rw [cell_at (S4.box 7 rfl)]; rfl
 have HS4 := Lib.hid S4
 clear S4
 go_wp2_with fail
 refine (lay_hp HS4.out 496 0 8 35 36 (by decide) (by decide) (by decide)).mono ?_
 rintro e v5 ⟨rfl, S5⟩
 replace S5 : Hp w0 A0 v5 (newObs b x pp pt pu pi pm mp (R.gate true) n d (laid 496 0 8 (fv (outF 3) b) (fv (inF 3) b) (laid 1016 0 8 (fv (outF 2) b) (fv (inF 2) b) (laid 64 0 4 (fv (outF 1) b) (fv (inF 1) b) (laid 160 2 2 (fv (outF 0) b) (fv (inF 0) b) (laid 32 0 2 (fv (outF 0) b) (fv (inF 0) b) (fun _ => none))))))) := S5
 clear hx
 have hx : v5.cell? ⟨x, 0, none⟩ = some (.pointer (some ⟨b, 0, none⟩)) := by rw [cell_at (S5.box 7 rfl)]; rfl
 have HS5 := Lib.hid S5
 clear S5
 go_wp2_with fail
 refine (lay_hp HS5.out 1014 8 1 35 36 (by decide) (by decide) (by decide)).mono ?_
 rintro e v6 ⟨rfl, S6⟩
 replace S6 : Hp w0 A0 v6 (newObs b x pp pt pu pi pm mp (R.gate true) n d (laid 1014 8 1 (fv (outF 3) b) (fv (inF 3) b) (laid 496 0 8 (fv (outF 3) b) (fv (inF 3) b) (laid 1016 0 8 (fv (outF 2) b) (fv (inF 2) b) (laid 64 0 4 (fv (outF 1) b) (fv (inF 1) b) (laid 160 2 2 (fv (outF 0) b) (fv (inF 0) b) (laid 32 0 2 (fv (outF 0) b) (fv (inF 0) b) (fun _ => none)))))))) := S6
 clear hx
 have hx : v6.cell? ⟨x, 0, none⟩ = some (.pointer (some ⟨b, 0, none⟩)) := by rw [cell_at (S6.box 7 rfl)]; rfl
 have HS6 := Lib.hid S6
 clear S6
 go_wp2_with fail
 refine (lay_hp HS6.out 146 0 1 37 38 (by decide) (by decide) (by decide)).mono ?_
 rintro e v7 ⟨rfl, S7⟩
 replace S7 : Hp w0 A0 v7 (newObs b x pp pt pu pi pm mp (R.gate true) n d (laid 146 0 1 (fv (outF 4) b) (fv (inF 4) b) (laid 1014 8 1 (fv (outF 3) b) (fv (inF 3) b) (laid 496 0 8 (fv (outF 3) b) (fv (inF 3) b) (laid 1016 0 8 (fv (outF 2) b) (fv (inF 2) b) (laid 64 0 4 (fv (outF 1) b) (fv (inF 1) b) (laid 160 2 2 (fv (outF 0) b) (fv (inF 0) b) (laid 32 0 2 (fv (outF 0) b) (fv (inF 0) b) (fun _ => none))))))))) := S7
 clear hx
 have hx : v7.cell? ⟨x, 0, none⟩ = some (.pointer (some ⟨b, 0, none⟩)) := by rw [cell_at (S7.box 7 rfl)]; rfl
 have HS7 := Lib.hid (Hp.built S7)
 clear S7
 go_wp2_with fail
 have ok0 : (Bs.mk Pic.chip0 Pic.chip0 ⟨Pit.ctNew, Pit.ctNew, Pit.ctNew⟩ Uart.Ut.new (Ide.Dk.new n d) true (R.gate true) 0).ok := ⟨⟨Pit.ctNew_ok 0 (Int.le_refl 0), Pit.ctNew_ok 0 (Int.le_refl 0), Pit.ctNew_ok 0 (Int.le_refl 0)⟩, by show 0 < _; decide⟩
 have TL := HS7.out.toBus
 obtain ⟨A1, h1, hg⟩ := TL.turn 0 rfl
 have TX := Hp.left (l1 := busObs b pp pt pu pi pm mp (Bs.mk Pic.chip0 Pic.chip0 ⟨Pit.ctNew, Pit.ctNew, Pit.ctNew⟩ Uart.Ut.new (Ide.Dk.new n d) true (R.gate true) 0)) HS7.out
 have hx9 := hx
 have hl := acts_bus (b := b) (pm := pm) (fun w0 w A0 pp pt pu pi mp T => lines_hp ok0 T)
 refine (TL.act 0 rfl hl).mono ?_
 rintro e v8 ⟨rfl, S8⟩
 have hx8 : v8.cell? ⟨x, 0, none⟩ = some (.pointer (some ⟨b, 0, none⟩)) := by rw [cell_at (S8.box 1 rfl)]; rfl
 clear hx hx9
 go_wp2_with fail
 go_ret2
 exact ⟨b, rfl, Hp.left (l1 := [oBus b pm (Bs.new R n d)]) S8⟩
end
end Go.Proofs.YtojmpdddfnkffaaGreat

/- the document's memory: what it is in memory; Place, Byte. -/
namespace Go.Proofs.YtojmpdddfnkffaaGreat
open Go.RowKit Go.MapKept
set_option linter.unusedVariables false

def byteCells (n : Nat) (f : Nat → Nat) : Array Value := Array.ofFn (n := n) fun i => .int .u8 (f i.val : Nat)
def boolCells (n : Nat) (f : Nat → Bool) : Array Value := Array.ofFn (n := n) fun i => .bool (f i.val)
theorem byteCells_set (n : Nat) (f : Nat → Nat) (i v : Nat) (h : i < n) : (byteCells n f).setIfInBounds i (.int .u8 (v : Nat)) = byteCells n (fun k => if k = i then v else f k) := by
 apply Array.ext_getElem?
 intro j
 unfold byteCells
 rw [Array.getElem?_setIfInBounds, Array.getElem?_ofFn, Array.getElem?_ofFn]
 by_cases hj : j < n
 ·rw [dif_pos hj, dif_pos hj]
  by_cases e : i = j
  ·subst e; rw [if_pos rfl, if_pos (by simpa using h)]; simp
  ·rw [if_neg e]; show _ = some (Value.int .u8 ((if j = i then v else f j : Nat) : Int)); rw [if_neg (fun x => e x.symm)]
 ·rw [dif_neg hj, dif_neg hj]
  by_cases e : i = j
  ·omega
  ·rw [if_neg e]
theorem boolCells_set (n : Nat) (f : Nat → Bool) (i : Nat) (v : Bool) (h : i < n) : (boolCells n f).setIfInBounds i (.bool v) = boolCells n (fun k => if k = i then v else f k) := by
 apply Array.ext_getElem?
 intro j
 unfold boolCells
 rw [Array.getElem?_setIfInBounds, Array.getElem?_ofFn, Array.getElem?_ofFn]
 by_cases hj : j < n
 ·rw [dif_pos hj, dif_pos hj]
  by_cases e : i = j
  ·subst e; rw [if_pos rfl, if_pos (by simpa using h)]; simp
  ·rw [if_neg e]; show _ = some (Value.bool (if j = i then v else f j)); rw [if_neg (fun x => e x.symm)]
 ·rw [dif_neg hj, dif_neg hj]
  by_cases e : i = j
  ·omega
  ·rw [if_neg e]
theorem byteCells_zero (n : Nat) : fresh n (.int .u8 0) = byteCells n (fun _ => 0) := by
 apply Array.ext_getElem?
 intro j
 unfold byteCells fresh
 rw [Array.getElem?_replicate, Array.getElem?_ofFn]
 by_cases h : j < n <;> simp [h]
theorem boolCells_no (n : Nat) : fresh n (.bool false) = boolCells n (fun _ => false) := by
 apply Array.ext_getElem?
 intro j
 unfold boolCells fresh
 rw [Array.getElem?_replicate, Array.getElem?_ofFn]
 by_cases h : j < n <;> simp [h]

structure RefIn (w : World) (b g0 g1 g2 g3 : Nat) (R : RS) : Prop where
 obj : w.heap[b]? = some (.cells #[.slice (some ⟨g0, 0, none⟩) R.size R.size, .slice (some ⟨g1, 0, none⟩) R.pages R.pages, .slice (some ⟨g2, 0, none⟩) (R.pages * 64) (R.pages * 64), .slice (some ⟨g3, 0, none⟩) (R.pages * 64) (R.pages * 64), .bool R.closed] 58)
 r0 : w.heap[g0]? = some (.cells (byteCells R.size R.byte) 5)
 r1 : w.heap[g1]? = some (.cells (boolCells R.pages R.only) 4)
 r2 : w.heap[g2]? = some (.cells (boolCells (R.pages * 64) R.watched) 4)
 r3 : w.heap[g3]? = some (.cells (boolCells (R.pages * 64) (fun i => R.noted (i * 64))) 4)
 d1 : g1 ≠ g2
 d2 : g1 ≠ g3
 d3 : g2 ≠ g3
 ok : R.ok
def RefOwned (b g0 g1 g2 g3 k : Nat) : Prop := k = b ∨ k = g0 ∨ k = g1 ∨ k = g2 ∨ k = g3
def Ref (w : World) (b : Nat) (S : Nat → Prop) (R : RS) : Prop := ∃ g0 g1 g2 g3, RefIn w b g0 g1 g2 g3 R ∧ ∀ k, S k ↔ RefOwned b g0 g1 g2 g3 k

section
variable {w w' : World} {b g0 g1 g2 g3 : Nat} {R : RS}
theorem RefIn.e0 (H : RefIn w b g0 g1 g2 g3 R) : b ≠ g0 := by
 rintro rfl; have h := H.r0; rw [H.obj] at h; simp at h
theorem RefIn.e1 (H : RefIn w b g0 g1 g2 g3 R) : b ≠ g1 := by
 rintro rfl; have h := H.r1; rw [H.obj] at h; simp at h
theorem RefIn.e2 (H : RefIn w b g0 g1 g2 g3 R) : b ≠ g2 := by
 rintro rfl; have h := H.r2; rw [H.obj] at h; simp at h
theorem RefIn.e3 (H : RefIn w b g0 g1 g2 g3 R) : b ≠ g3 := by
 rintro rfl; have h := H.r3; rw [H.obj] at h; simp at h
theorem RefIn.f1 (H : RefIn w b g0 g1 g2 g3 R) : g0 ≠ g1 := by
 rintro rfl; have h := H.r1; rw [H.r0] at h; simp at h
theorem RefIn.f2 (H : RefIn w b g0 g1 g2 g3 R) : g0 ≠ g2 := by
 rintro rfl; have h := H.r2; rw [H.r0] at h; simp at h
theorem RefIn.f3 (H : RefIn w b g0 g1 g2 g3 R) : g0 ≠ g3 := by
 rintro rfl; have h := H.r3; rw [H.r0] at h; simp at h
theorem RefOwned.lt (H : RefIn w b g0 g1 g2 g3 R) {k : Nat} (h : RefOwned b g0 g1 g2 g3 k) : k < w.heap.size := by
 rcases h with rfl | rfl | rfl | rfl | rfl
 ·exact heap_lt H.obj
 ·exact heap_lt H.r0
 ·exact heap_lt H.r1
 ·exact heap_lt H.r2
 ·exact heap_lt H.r3
theorem RefIn.of_heap (H : RefIn w b g0 g1 g2 g3 R) (h : ∀ k, RefOwned b g0 g1 g2 g3 k → w'.heap[k]? = w.heap[k]?) : RefIn w' b g0 g1 g2 g3 R :=
 {H with
  obj := by rw [h b (.inl rfl)]; exact H.obj
  r0 := by rw [h g0 (.inr (.inl rfl))]; exact H.r0
  r1 := by rw [h g1 (.inr (.inr (.inl rfl)))]; exact H.r1
  r2 := by rw [h g2 (.inr (.inr (.inr (.inl rfl))))]; exact H.r2
  r3 := by rw [h g3 (.inr (.inr (.inr (.inr rfl))))]; exact H.r3 }
theorem RefIn.drewN (H : RefIn w b g0 g1 g2 g3 R) (n : Nat) : RefIn (w.drewN n) b g0 g1 g2 g3 R := H.of_heap fun _ _ => rfl
theorem RefIn.facts (H : RefIn w b g0 g1 g2 g3 R) :
    w.cell? ⟨b, 0, none⟩ = some (.slice (some ⟨g0, 0, none⟩) R.size R.size) ∧ w.cell? ⟨b, 1, none⟩ = some (.slice (some ⟨g1, 0, none⟩) R.pages R.pages) ∧ w.cell? ⟨b, 2, none⟩ = some (.slice (some ⟨g2, 0, none⟩) (R.pages * 64) (R.pages * 64)) ∧
    w.cell? ⟨b, 3, none⟩ = some (.slice (some ⟨g3, 0, none⟩) (R.pages * 64) (R.pages * 64)) ∧ w.cell? ⟨b, 4, none⟩ = some (.bool R.closed) := by
 have h := H.obj
 refine ⟨?_, ?_, ?_, ?_, ?_⟩ <;> (rw [cell_at h]; rfl)
end
section
variable {w w' : World} {b : Nat} {S : Nat → Prop} {R : RS}
theorem Ref.lt (H : Ref w b S R) {k : Nat} (h : S k) : k < w.heap.size := by
 obtain ⟨g0, g1, g2, g3, I, hS⟩ := H
 exact RefOwned.lt I ((hS k).1 h)
theorem Ref.own (H : Ref w b S R) : S b := by
 obtain ⟨g0, g1, g2, g3, I, hS⟩ := H
 exact (hS b).2 (.inl rfl)
theorem Ref.isok (H : Ref w b S R) : R.ok := by
 obtain ⟨g0, g1, g2, g3, I, hS⟩ := H
 exact I.ok
theorem Ref.keeps {T : Nat → Prop} (H : Ref w b S R) (hk : Keeps T w w') (hn : ∀ k, S k → ¬ T k) : Ref w' b S R := by
 obtain ⟨g0, g1, g2, g3, I, hS⟩ := H
 exact ⟨g0, g1, g2, g3, I.of_heap fun k hk' => hk.block k (hk'.lt I) (hn k ((hS k).2 hk')), hS⟩
theorem Ref.below (H : Ref w b S R) (hb : Below w.heap.size w w') : Ref w' b S R := H.keeps (Keeps.ofBelow (S := fun _ => False) hb) fun _ _ h => h
theorem Ref.drewN (H : Ref w b S R) (n : Nat) : Ref (w.drewN n) b S R := H.keeps ((Keeps.refl (fun _ => False) _).drewN n) fun _ _ h => h
theorem Ref.alloc (H : Ref w b S R) (o : Obj) : Ref (w.alloc o) b S R := H.keeps ((Keeps.refl (fun _ => False) _).alloc o) fun _ _ h => h
end

section
variable {w w' : World} {b g0 g1 g2 g3 : Nat} {R : RS}
theorem RefIn.set0 (H : RefIn w b g0 g1 g2 g3 R) (n v : Nat) (hn : n < R.size) (hv : v < 256) : RefIn (w.setCell ⟨g0, n, none⟩ (.int .u8 v)) b g0 g1 g2 g3 { R with byte := fun i => if i = n then v else R.byte i } :=
 {H with
  obj := by rw [heap_set_ne _ _ _ _ _ H.e0]; exact H.obj
  r0 := by
   rw [heap_set_map, H.r0]
   show some (Obj.cells _ _ _) = _
   rw [byteCells_set _ _ _ _ hn]; rfl
  r1 := by rw [heap_set_ne _ _ _ _ _ H.f1.symm]; exact H.r1
  r2 := by rw [heap_set_ne _ _ _ _ _ H.f2.symm]; exact H.r2
  r3 := by rw [heap_set_ne _ _ _ _ _ H.f3.symm]; exact H.r3
  ok := ⟨H.ok.p1, H.ok.p2, fun i => by
   show (if i = n then v else R.byte i) < 256
   split
   ·exact hv
   ·exact H.ok.b i⟩ }
theorem RefIn.set1 (H : RefIn w b g0 g1 g2 g3 R) (n : Nat) (v : Bool) (hn : n < R.pages) : RefIn (w.setCell ⟨g1, n, none⟩ (.bool v)) b g0 g1 g2 g3 { R with only := fun i => if i = n then v else R.only i } :=
 {H with
  obj := by rw [heap_set_ne _ _ _ _ _ H.e1]; exact H.obj
  r0 := by rw [heap_set_ne _ _ _ _ _ H.f1]; exact H.r0
  r1 := by
   rw [heap_set_map, H.r1]
   show some (Obj.cells _ _ _) = _
   rw [boolCells_set _ _ _ _ hn]
  r2 := by rw [heap_set_ne _ _ _ _ _ H.d1.symm]; exact H.r2
  r3 := by rw [heap_set_ne _ _ _ _ _ H.d2.symm]; exact H.r3
  ok := ⟨H.ok.p1, H.ok.p2, H.ok.b⟩ }
end

end Go.Proofs.YtojmpdddfnkffaaGreat

/- the document's memory: Read, Write, Rom, New. -/
namespace Go.Proofs.YtojmpdddfnkffaaGreat
open Go.RowKit Go.MapKept
set_option linter.unusedVariables false

end Go.Proofs.YtojmpdddfnkffaaGreat

/- the document's memory: New. -/
namespace Go.Proofs.YtojmpdddfnkffaaGreat
open Go.RowKit Go.MapKept
set_option linter.unusedVariables false

theorem make_bools (w : World) (n : Nat) (h : n ≤ 281474976710656) (x y : Int) (hx : x = (n : Int)) (hy : y = (n : Int)) :
    (Instr.makeSlice 56 (.int .i64 x) (.int .i64 y)).run Tryz.prog w = .ok (.slice (some ⟨w.heap.size, 0, .none⟩) n n) (w.alloc (.cells (fresh n (.bool false)) 4)) :=
 make_run w _ _ _ 1 n Tryz.underlying56 (by kernel_rfl) rfl (by omega) (by omega) x y hx hy
theorem alloc_heap (w : World) (o : Obj) : (w.alloc o).heap = w.heap.push o := rfl
theorem rnew_close {w w' : World} {n b g0 g1 g2 g3 : Nat} (h1 : 1 ≤ n) (h2 : n ≤ 256)
    (o : w'.heap[b]? = some (.cells #[.slice (some ⟨g0, 0, none⟩) (n * 4096) (n * 4096), .slice (some ⟨g1, 0, none⟩) n n, .slice (some ⟨g2, 0, none⟩) (n * 64) (n * 64), .slice (some ⟨g3, 0, none⟩) (n * 64) (n * 64), .bool false] 58))
    (r0 : w'.heap[g0]? = some (.cells (fresh (n * 4096) (.int .u8 0)) 5)) (r1 : w'.heap[g1]? = some (.cells (fresh n (.bool false)) 4)) (r2 : w'.heap[g2]? = some (.cells (fresh (n * 64) (.bool false)) 4)) (r3 : w'.heap[g3]? = some (.cells (fresh (n * 64) (.bool false)) 4))
    (d : g1 ≠ g2 ∧ g1 ≠ g3 ∧ g2 ≠ g3) (lo : w.heap.size ≤ b ∧ w.heap.size ≤ g0 ∧ w.heap.size ≤ g1 ∧ w.heap.size ≤ g2 ∧ w.heap.size ≤ g3) (hb : Below w.heap.size w w') :
    ∃ b' S, Ending.returned (.tuple #[.pointer (some ⟨b, 0, .none⟩), .int .i64 0]) = .returned (.tuple #[.pointer (some ⟨b', 0, .none⟩), .int .i64 0]) ∧ Ref w' b' S (RS.new n) ∧ (∀ k, S k → w.heap.size ≤ k) ∧ Below w.heap.size w w' := by
 refine ⟨b, RefOwned b g0 g1 g2 g3, rfl, ⟨g0, g1, g2, g3, { obj := o, r0 := ?_, r1 := ?_, r2 := ?_, r3 := ?_, d1 := d.1, d2 := d.2.1, d3 := d.2.2, ok := RS.new_ok h1 h2 }, fun k => Iff.rfl⟩, ?_, hb⟩
 ·rw [r0, byteCells_zero]; rfl
 ·rw [r1, boolCells_no]; rfl
 ·rw [r2, boolCells_no]; rfl
 ·rw [r3, boolCells_no]; rfl
 ·rintro k (rfl | rfl | rfl | rfl | rfl)
  ·exact lo.1
  ·exact lo.2.1
  ·exact lo.2.2.1
  ·exact lo.2.2.2.1
  ·exact lo.2.2.2.2
theorem rnew_any (w : World) (n : Nat) (h1 : 1 ≤ n) (h2 : n ≤ 256) :
    Calls Tryz.prog 7 #[.int .i64 n] w fun e w' => ∃ b S, e = .returned (.tuple #[.pointer (some ⟨b, 0, .none⟩), .int .i64 0]) ∧ Ref w' b S (RS.new n) ∧ (∀ k, S k → w.heap.size ≤ k) ∧ Below w.heap.size w w' := by
 have e64 : IntKind.i64.wrap (((n : Int) * 4096).tdiv 64) = ((n * 64 : Nat) : Int) := by rw [Int.tdiv_eq_ediv_of_nonneg (by omega), IntKind.wrap_i64]; omega
 have m0 := fun w => make_bytes w (n * 4096) (by omega) ((n : Int) * 4096) ((n : Int) * 4096) (by omega) (by omega)
 have m1 := fun w => make_bools w n (by omega) (n : Int) (n : Int) (by omega) (by omega)
 have m2 := fun w => make_bools w (n * 64) (by omega) (IntKind.i64.wrap (((n : Int) * 4096).tdiv 64)) (IntKind.i64.wrap (((n : Int) * 4096).tdiv 64)) e64 e64
 clear e64
 go_enter Tryz.func7, Tryz.ntmps7
 go_wp2_with fail
 go_region_held3 (fun w' => True) (trivial) (fail)
 all_goals
  clear m0 m1 m2
  go_wp2_with fail
  go_ret2
  refine rnew_close h1 h2 (by rw [heap_drew]; exact heap_at _ _ _ (by simp)) ?_ ?_ ?_ ?_ (by omega) (by omega) (by go_grown)
  all_goals simp only [heap_drew, alloc_heap, Array.getElem?_push, Array.size_push]
  all_goals (repeat (first | rw [if_neg (by omega)] | rw [if_pos (by omega)]))
theorem rnew_bad (w : World) (n : Int) (h : n < 1 ∨ 256 < n) :
    Calls Tryz.prog 7 #[.int .i64 n] w fun e w' => e = .returned (.tuple #[.pointer .none, .int .i64 50]) ∧ w = w' := by
 rcases h with h | h
 all_goals
  go_enter Tryz.func7, Tryz.ntmps7
  go_wp2_with fail
  go_ret2
  exact ⟨rfl, rfl⟩
end Go.Proofs.YtojmpdddfnkffaaGreat

/- pic: the order in which lines are told, as a plain law over chips. -/
namespace Go.Proofs.YtojmpdddfnkffaaGreat.Pic
open Go.RowKit
set_option linter.unusedVariables false

theorem bit_ask0 (c d : Chip) (j : Nat) (hj : j < 8) : (ask0 c d).testBit j = if j = 2 then isTold d.asks d.masked d.served else c.asks.testBit j := by
 have h1 : ∀ j : Fin 8, (251).testBit j.val = !decide (j.val = 2) := by decide +kernel
 have h2 : ∀ j : Fin 8, (4).testBit j.val = decide (j.val = 2) := by decide +kernel
 have e1 := h1 ⟨j, hj⟩
 have e2 := h2 ⟨j, hj⟩
 simp only at e1 e2
 unfold ask0
 cases ht : isTold d.asks d.masked d.served
 ·rw [if_neg (by simp), Nat.testBit_and, e1]
  by_cases h : j = 2 <;> simp [h]
 ·rw [if_pos rfl, Nat.testBit_or, Nat.testBit_and, e1, e2]
  by_cases h : j = 2 <;> simp [h]

def pc (j : Nat) : Nat := if j < 2 then j else j + 7
structure Inv (lo hi ml mh k : Nat) (c d : Chip) : Prop where
 cm : c.masked = ml
 dm : d.masked = mh
 cs : c.served = 0
 ds : d.served = 0
 ce : c.ends = false
 de : d.ends = false
 cb : c.base = 32
 db : d.base = 40
 ca : ∀ j, j < 8 → j ≠ 2 → k ≤ pc j → c.asks.testBit j = lo.testBit j
 cz : ∀ j, j < 8 → j ≠ 2 → pc j < k → (c.asks.testBit j && !ml.testBit j) = false
 da : ∀ j, j < 8 → k ≤ j + 2 → d.asks.testBit j = hi.testBit j
 dz : ∀ j, j < 8 → j + 2 < k → (d.asks.testBit j && !mh.testBit j) = false

section
variable {lo hi ml mh k : Nat} {c d : Chip} (I : Inv lo hi ml mh k c d) (hc : c.ok) (hd : d.ok) (h2 : ml.testBit 2 = false) (hml : ml < 256) (hmh : mh < 256)
include I hc hd h2 hml hmh

end

-- THE CALLS, THAT TURN NO OTHER BLOCK
end Go.Proofs.YtojmpdddfnkffaaGreat.Pic

