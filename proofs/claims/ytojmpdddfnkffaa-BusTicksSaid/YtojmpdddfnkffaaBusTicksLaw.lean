/- 'drawloom/drawloomlaw15.BusTicks' answers true for every input. Conditions: none. -/
import Derived.Test.YtojmpdddfnkffaaFrame
import Derived.Test.YtojmpdddfnkffaaMbusd
namespace Go.Proofs.Ytojmpdddfnkffaa.busTicks
open Go.ChangeShapes Go.WideShapes Go.ChangeAt Go.RowKit
set_option linter.unusedVariables false

/-- What a part adds. -/
def part (z : Int) : Int := Int.tmod z 5000
def sumT (z : Nat → Int) : Nat → Nat
  | 0 => 0
  | k + 1 => sumT z k + (part (z k)).toNat
theorem part_bd (z : Int) : -5000 < part z ∧ part z < 5000 := by
  unfold part
  by_cases h : 0 ≤ z
  · rw [Int.tmod_eq_emod_of_nonneg h]; omega
  · obtain ⟨y, rfl⟩ : ∃ y, z = -y := ⟨-z, by omega⟩
    rw [Int.neg_tmod, Int.tmod_eq_emod_of_nonneg (by omega)]; omega
theorem sumT_bd (z : Nat → Int) : ∀ k, sumT z k ≤ 5000 * k
  | 0 => Nat.le_refl _
  | k + 1 => by have := sumT_bd z k; have := part_bd (z k); show sumT z k + _ ≤ _; omega
set_option maxRecDepth 20000 in
set_option maxHeartbeats 8000000 in
theorem walk (w : World) (sa : Option Addr) (sl sc : Nat) (kd : Nat → Int) (pt : Nat → Nat) (sz : Nat → Int) (xv : Nat → Nat) (hsl : sl ≤ 9223372036854775807) (J : OpsIn w sa sl kd pt sz xv)
    (pa : Option Addr) (pl pc : Nat) (z : Nat → Int) (hpl : pl ≤ 9223372036854775807) (K : IntsIn .i64 w pa pl z) :
    Calls Try.prog 3 #[.slice sa sl sc, .slice pa pl pc] w fun e w' => e = .returned (.bool true) ∧ Below w.heap.size w w' := by
  go_enter Try.func3, Try.ntmps3
  go_wp2_with fail
  refine (bus_awake _).mono ?_
  rintro e w1 ⟨rfl, hb1⟩
  have HB := Lib.hid hb1
  clear hb1
  go_wp2_with fail
  refine (Ide.lawdisk_any 2 (by decide) (by decide) 0 (by decide) w1).mono ?_
  rintro e w2 ⟨v, rfl, hr, hb⟩
  have HR := Lib.hid (And.intro (Reads_law (n := 2) hr) (step_below HB.out hb (Nat.le_refl _)))
  obtain ⟨va, vc, rfl, -⟩ := Reads_law (n := 2) hr
  clear hr hb
  go_wp2_with fail
  refine (both_any w2 _ 1 (by decide) (by decide) HR.out.1 (by decide) (Ide.dsk_lt 0)).mono ?_
  rintro e w3 ⟨b, c0, m, r0, rfl, T⟩
  have HT3 := Lib.hid (show Hp w2 (fun _ => False) w3 [oBus b m (B0 1 2)] from two_new w2 w3 T)
  clear T
  go_wp2_with fail
  refine (Ide.lawdisk_any 2 (by decide) (by decide) 0 (by decide) w3).mono ?_
  rintro e w4 ⟨v4, rfl, hr, hb⟩
  have HT4 := Lib.hid (HT3.out.grow hb)
  have HR4 := Lib.hid (Reads_law (n := 2) hr)
  obtain ⟨va4, vc4, rfl, -⟩ := Reads_law (n := 2) hr
  clear hr hb
  go_wp2_with fail
  refine (both_any w4 _ 1 (by decide) (by decide) HR4.out (by decide) (Ide.dsk_lt 0)).mono ?_
  rintro e w5 ⟨c, c1, m1, r1, rfl, T⟩
  have T5 : Two w2 w5 b m c m1 (B0 1 2) (B0 1 2) := HT4.out.both (two_new w4 w5 T)
  have HT5 := Lib.hid T5
  have HW2 := Lib.hid HR.out.2
  clear T T5 HT3 HT4 HR HR4
  go_wp2_with fail
  go_loopw [12] (fun i wc => ∃ (k : Nat) (B : Bs), k ≤ sl ∧ k ≤ 100 ∧ i = .int .i64 k ∧ Good B k ∧ Two w2 wc b m c m1 B B) (fun i _ => 100 - (intOf i).toNat)
  case atStart => exact ⟨0, _, by omega, by omega, rfl, Good.start 1 2, HT5.out⟩
  case round =>
    obtain ⟨k, B, hk, hk2, rfl, G, T⟩ := hrel
    have HG := Lib.hid G
    have HT := Lib.hid T
    have HL := Lib.hid (step_below HW2.out T.below (Nat.le_refl _))
    clear G T HT5
    by_cases hlt : k < sl ∧ k < 100
    · obtain ⟨h1, h2⟩ := hlt
      obtain ⟨kb, ko, rfl, A2⟩ : ∃ b off, sa = some ⟨b, off, none⟩ ∧ OpsAt w b off sl kd pt sz xv := by
        rcases J with h | h
        · omega
        · exact h
      have AT := A2.below HL.out A2.hb
      have c0 := AT.c0 k h1
      have c1 := AT.c1 k h1
      have c2 := AT.c2 k h1
      have c3 := AT.c3 k h1
      have HU := Lib.hid (And.intro (AT.u1 k h1) (AT.u3 k h1))
      have p1 : (0 : Int) ≤ (k : Int) := by omega
      have p2 : (k : Int) < sl := by omega
      have p3 : (k : Int) < 100 := by omega
      have hl := AT.hb
      clear A2 AT
      generalize kd k = kk at *
      generalize pt k = pp at *
      generalize sz k = ss at *
      generalize xv k = xx at *
      go_upto_region 10 with (fail)
      have T1 := HT.out.make (.cells #[.int .i64 kk, .int .u16 (pp : Nat), .int .i64 ss, .int .u32 (xx : Nat)] 35)
      generalize wr.alloc (.cells #[.int .i64 kk, .int .u16 (pp : Nat), .int .i64 ss, .int .u32 (xx : Nat)] 35) = wz at *
      generalize wr.heap.size = g at *
      have hO := T1.box 2 rfl
      have z0 : wz.cell? ⟨g, 0, none⟩ = some (.int .i64 kk) := by rw [cell_at hO]; rfl
      have z1 : wz.cell? ⟨g, 1, none⟩ = some (.int .u16 (pp : Nat)) := by rw [cell_at hO]; rfl
      have z2 : wz.cell? ⟨g, 2, none⟩ = some (.int .i64 ss) := by rw [cell_at hO]; rfl
      have z3 : wz.cell? ⟨g, 3, none⟩ = some (.int .u32 (xx : Nat)) := by rw [cell_at hO]; rfl
      have zl := heap_lt hO
      have HT1 := Lib.hid T1
      clear c0 c1 c2 c3 hl hO T1 HT
      by_cases hk1 : kk = 1
      · subst hk1
        go_wp2_with fail
        refine (HT1.out.act 0 rfl (bus_any HG.out.ok (HG.out.f.le (by omega)) pp ss xx HU.out.1 HU.out.2)).mono ?_
        rintro e w6 ⟨rfl, T6⟩
        have hO := T6.box 2 rfl
        clear z0 z1 z2 z3 zl
        have z0 : w6.cell? ⟨g, 0, none⟩ = some (.int .i64 1) := by rw [cell_at hO]; rfl
        have z1 : w6.cell? ⟨g, 1, none⟩ = some (.int .u16 (pp : Nat)) := by rw [cell_at hO]; rfl
        have z2 : w6.cell? ⟨g, 2, none⟩ = some (.int .i64 ss) := by rw [cell_at hO]; rfl
        have z3 : w6.cell? ⟨g, 3, none⟩ = some (.int .u32 (xx : Nat)) := by rw [cell_at hO]; rfl
        have zl := heap_lt hO
        have HT6 := Lib.hid T6
        clear T6 hO HT1
        go_wp2_with fail
        refine (HT6.out.act 1 rfl (bus_any HG.out.ok (HG.out.f.le (by omega)) pp ss xx HU.out.1 HU.out.2)).mono ?_
        rintro e w7 ⟨rfl, T7⟩
        have HT7 := Lib.hid (show Two w2 w7 b m c m1 (B.any pp ss xx) (B.any pp ss xx) from Hp.left (l1 := [oBus b m (B.any pp ss xx), oBus c m1 (B.any pp ss xx)]) T7)
        clear T7 z0 z1 z2 z3 zl HT6
        go_wp2_with fail
        go_roundw
        case rel => exact ⟨k + 1, _, by omega, by omega, by go_num, HG.out.any pp ss xx, HT7.out⟩
        case measure => (simp [intOf]) <;> omega
      · have e1 : (kk == 1) = false := by simpa using hk1
        clear hk1
        go_wp2_with fail
        go_roundw
        case rel => exact ⟨k + 1, B, by omega, by omega, by go_num, HG.out.next, Hp.left (l1 := [oBus b m B, oBus c m1 B]) HT1.out⟩
        case measure => (simp [intOf]) <;> omega
    · by_cases hx : k < sl
      · have hk100 : ¬ ((k : Int) < 100) := by omega
        have hk3 : (k : Int) < sl := by omega
        go_wp2_with fail
        go_loopw [14, 15] (fun al i wc => ∃ (j : Nat), j ≤ pl ∧ j ≤ 20 ∧ i = .int .i64 j ∧ al = .int .i64 (sumT z j : Nat) ∧ Two w2 wc b m c m1 (B.ticks (sumT z j)) B) (fun al i _ => 20 - (intOf i).toNat)
        case atStart => exact ⟨0, by omega, by omega, rfl, rfl, HT.out⟩
        case round =>
          skip
          obtain ⟨j, hj, hj2, rfl, rfl, T⟩ := hrel
          by_cases hlt2 : j < pl ∧ j < 20
          · obtain ⟨h1, h2⟩ := hlt2
            obtain ⟨pb, po, rfl, pbl, hz⟩ : ∃ b off, pa = some ⟨b, off, none⟩ ∧ b < w.heap.size ∧ ∀ i, i < pl → w.cell? ⟨b, off + i, none⟩ = some (.int .i64 (z i)) ∧ IntKind.i64.min ≤ z i ∧ z i ≤ IntKind.i64.max := by
              rcases K with h | h
              · omega
              · exact h
            have HLP := step_below HW2.out T.below (Nat.le_refl _)
            have d0 := (HLP.cell pbl).trans (hz j h1).1
            have dl : pb < wr.heap.size := Nat.lt_of_lt_of_le pbl HLP.size
            have q1 : (0 : Int) ≤ (j : Int) := by omega
            have q2 : (j : Int) < pl := by omega
            have q3 : (j : Int) < 20 := by omega
            have hs := sumT_bd z j
            have hpb := part_bd (z j)
            have HTT := Lib.hid T
            have hsucc : sumT z (j + 1) = sumT z j + (part (z j)).toNat := rfl
            have HSU := Lib.hid hsucc
            have HIT := Lib.hid HT.out
            clear hz HLP hsucc T
            unfold part at hpb
            generalize hzj : z j = zz at *
            have HZJ := Lib.hid hzj
            clear hzj
            generalize hSj : sumT z j = S at *
            have okD := Bs.ticks_ok HG.out.ok S (by rw [HG.out.t]; omega)
            have OKD := Lib.hid okD
            have HS := Lib.hid hs
            clear okD hs
            go_upto_region 18 with (fail)
            generalize hq : Int.tmod zz 5000 = q at *
            have HQ := Lib.hid (show (part zz) = q from hq)
            obtain ⟨hq1, hq2⟩ := hpb
            clear d0 dl hq
            go_wp2_with fail
            refine (HTT.out.act 0 rfl (bus_tick OKD.out.1 q (by omega) (by rw [OKD.out.2, HG.out.t]; have := HS.out; omega))).mono ?_
            rintro e u1 ⟨rfl, U1⟩
            rw [← ticks_add] at U1
            have HU1 := Lib.hid (show Two w2 u1 b m c m1 (B.ticks (S + q.toNat)) B from U1)
            have sb : (S : Int) < 100001 := by have := HS.out; omega
            clear U1 HTT
            by_cases hq0 : 0 < q
            · go_wp2_with fail
              go_roundw
              case rel =>
                refine ⟨j + 1, by omega, by omega, by go_num, ?_, by rw [HSU.out, HQ.out]; exact HU1.out⟩
                rw [HSU.out, HQ.out]
                refine congrArg (Value.int .i64) (?_ : _ = _)
                omega
              case measure => (simp [intOf]) <;> omega
            · have hz0 : q.toNat = 0 := by omega
              have HZ0 := Lib.hid hz0
              have hqn : q ≤ 0 := by omega
              clear hq0 hz0 sb hq1 hq2
              go_wp2_with fail
              go_roundw
              case rel => exact ⟨j + 1, by omega, by omega, by go_num, by rw [HSU.out, HQ.out, HZ0.out, Nat.add_zero], by rw [HSU.out, HQ.out]; exact HU1.out⟩
              case measure => (simp [intOf]) <;> omega
          · by_cases hx2 : j < pl
            · have hj20 : ¬ ((j : Int) < 20) := by omega
              have hj3 : (j : Int) < pl := by omega
              have hs := sumT_bd z j
              have HS := Lib.hid hs
              have okD := Bs.ticks_ok HG.out.ok (sumT z j) (by rw [HG.out.t]; omega)
              have OKD := Lib.hid okD
              have HTT := Lib.hid T
              have hn0 : (0 : Int) ≤ (sumT z j : Nat) := by omega
              have HNN := Lib.hid (show ((sumT z j : Nat) : Int).toNat = sumT z j by omega)
              clear hs okD T
              generalize hS : sumT z j = S at *
              generalize hD : B.ticks S = D at *
              have HD := Lib.hid hD
              clear hS hD
              go_wp2_with fail
              refine (HTT.out.act 1 rfl (bus_tick HG.out.ok (S : Nat) (by have := HS.out; omega) (by rw [HG.out.t, HNN.out]; have := HS.out; omega))).mono ?_
              rintro e u1 ⟨rfl, U1⟩
              rw [HNN.out, HD.out] at U1
              have HU1 := Lib.hid (show Two w2 u1 b m c m1 D D from U1)
              clear U1 HTT
              go_wp2_with fail
              refine (HU1.out.act 0 rfl (bus_in OKD.out.1 64 1 (by decide) (.inl rfl))).mono ?_
              rintro e u2 ⟨rfl, U2⟩
              have HU2 := Lib.hid (show Two w2 u2 b m c m1 (D.inS 64 1) D from U2)
              clear U2 HU1
              go_wp2_with fail
              refine (HU2.out.act 1 rfl (bus_in OKD.out.1 64 1 (by decide) (.inl rfl))).mono ?_
              rintro e u3 ⟨rfl, U3⟩
              have HU3 := Lib.hid (show Two w2 u3 b m c m1 (D.inS 64 1) (D.inS 64 1) from U3)
              have OK3 := Lib.hid (Bs.inS_ok OKD.out.1 64 1)
              clear U3 HU2
              generalize D.inS 64 1 = F at *
              go_wp2_with fail
              refine (HU3.out.act 0 rfl bus_now).mono ?_
              rintro e u4 ⟨rfl, U4⟩
              have HU4 := Lib.hid (show Two w2 u4 b m c m1 F F from U4)
              clear U4 HU3
              go_wp2_with fail
              refine (HU4.out.act 1 rfl bus_now).mono ?_
              rintro e u5 ⟨rfl, U5⟩
              have HU5 := Lib.hid (show Two w2 u5 b m c m1 F F from U5)
              clear U5 HU4
              go_wp2_with fail
              refine (HU5.out.act 0 rfl bus_pending).mono ?_
              rintro e u6 ⟨rfl, U6⟩
              have HU6 := Lib.hid (show Two w2 u6 b m c m1 F F from U6)
              clear U6 HU5
              go_wp2_with fail
              refine (HU6.out.act 1 rfl bus_pending).mono ?_
              rintro e u7 ⟨rfl, U7⟩
              have HU7 := Lib.hid (show Two w2 u7 b m c m1 F F from U7)
              clear U7 HU6
              go_wp2_with fail
              refine (HU7.out.act 0 rfl (bus_ack OK3.out)).mono ?_
              rintro e u8 ⟨rfl, U8⟩
              have HU8 := Lib.hid (show Two w2 u8 b m c m1 F.ack F from U8)
              clear U8 HU7
              go_wp2_with fail
              refine (HU8.out.act 1 rfl (bus_ack OK3.out)).mono ?_
              rintro e u9 ⟨rfl, U9⟩
              have HU9 := Lib.hid (show Two w2 u9 b m c m1 F.ack F.ack from U9)
              clear U9 HU8
              go_wp2_with fail
              go_ret
              exact ⟨rfl, step_below HW2.out HU9.out.below (Nat.le_refl _)⟩
            · have hj3 : ¬ ((j : Int) < pl) := by omega
              have hs := sumT_bd z j
              have HS := Lib.hid hs
              have okD := Bs.ticks_ok HG.out.ok (sumT z j) (by rw [HG.out.t]; omega)
              have OKD := Lib.hid okD
              have HTT := Lib.hid T
              have hn0 : (0 : Int) ≤ (sumT z j : Nat) := by omega
              have HNN := Lib.hid (show ((sumT z j : Nat) : Int).toNat = sumT z j by omega)
              clear hs okD T
              generalize hS : sumT z j = S at *
              generalize hD : B.ticks S = D at *
              have HD := Lib.hid hD
              clear hS hD
              go_wp2_with fail
              refine (HTT.out.act 1 rfl (bus_tick HG.out.ok (S : Nat) (by have := HS.out; omega) (by rw [HG.out.t, HNN.out]; have := HS.out; omega))).mono ?_
              rintro e u1 ⟨rfl, U1⟩
              rw [HNN.out, HD.out] at U1
              have HU1 := Lib.hid (show Two w2 u1 b m c m1 D D from U1)
              clear U1 HTT
              go_wp2_with fail
              refine (HU1.out.act 0 rfl (bus_in OKD.out.1 64 1 (by decide) (.inl rfl))).mono ?_
              rintro e u2 ⟨rfl, U2⟩
              have HU2 := Lib.hid (show Two w2 u2 b m c m1 (D.inS 64 1) D from U2)
              clear U2 HU1
              go_wp2_with fail
              refine (HU2.out.act 1 rfl (bus_in OKD.out.1 64 1 (by decide) (.inl rfl))).mono ?_
              rintro e u3 ⟨rfl, U3⟩
              have HU3 := Lib.hid (show Two w2 u3 b m c m1 (D.inS 64 1) (D.inS 64 1) from U3)
              have OK3 := Lib.hid (Bs.inS_ok OKD.out.1 64 1)
              clear U3 HU2
              generalize D.inS 64 1 = F at *
              go_wp2_with fail
              refine (HU3.out.act 0 rfl bus_now).mono ?_
              rintro e u4 ⟨rfl, U4⟩
              have HU4 := Lib.hid (show Two w2 u4 b m c m1 F F from U4)
              clear U4 HU3
              go_wp2_with fail
              refine (HU4.out.act 1 rfl bus_now).mono ?_
              rintro e u5 ⟨rfl, U5⟩
              have HU5 := Lib.hid (show Two w2 u5 b m c m1 F F from U5)
              clear U5 HU4
              go_wp2_with fail
              refine (HU5.out.act 0 rfl bus_pending).mono ?_
              rintro e u6 ⟨rfl, U6⟩
              have HU6 := Lib.hid (show Two w2 u6 b m c m1 F F from U6)
              clear U6 HU5
              go_wp2_with fail
              refine (HU6.out.act 1 rfl bus_pending).mono ?_
              rintro e u7 ⟨rfl, U7⟩
              have HU7 := Lib.hid (show Two w2 u7 b m c m1 F F from U7)
              clear U7 HU6
              go_wp2_with fail
              refine (HU7.out.act 0 rfl (bus_ack OK3.out)).mono ?_
              rintro e u8 ⟨rfl, U8⟩
              have HU8 := Lib.hid (show Two w2 u8 b m c m1 F.ack F from U8)
              clear U8 HU7
              go_wp2_with fail
              refine (HU8.out.act 1 rfl (bus_ack OK3.out)).mono ?_
              rintro e u9 ⟨rfl, U9⟩
              have HU9 := Lib.hid (show Two w2 u9 b m c m1 F.ack F.ack from U9)
              clear U9 HU8
              go_wp2_with fail
              go_ret
              exact ⟨rfl, step_below HW2.out HU9.out.below (Nat.le_refl _)⟩

      · have hk3 : ¬ ((k : Int) < sl) := by omega
        go_wp2_with fail
        go_loopw [14, 15] (fun al i wc => ∃ (j : Nat), j ≤ pl ∧ j ≤ 20 ∧ i = .int .i64 j ∧ al = .int .i64 (sumT z j : Nat) ∧ Two w2 wc b m c m1 (B.ticks (sumT z j)) B) (fun al i _ => 20 - (intOf i).toNat)
        case atStart => exact ⟨0, by omega, by omega, rfl, rfl, HT.out⟩
        case round =>
          skip
          obtain ⟨j, hj, hj2, rfl, rfl, T⟩ := hrel
          by_cases hlt2 : j < pl ∧ j < 20
          · obtain ⟨h1, h2⟩ := hlt2
            obtain ⟨pb, po, rfl, pbl, hz⟩ : ∃ b off, pa = some ⟨b, off, none⟩ ∧ b < w.heap.size ∧ ∀ i, i < pl → w.cell? ⟨b, off + i, none⟩ = some (.int .i64 (z i)) ∧ IntKind.i64.min ≤ z i ∧ z i ≤ IntKind.i64.max := by
              rcases K with h | h
              · omega
              · exact h
            have HLP := step_below HW2.out T.below (Nat.le_refl _)
            have d0 := (HLP.cell pbl).trans (hz j h1).1
            have dl : pb < wr.heap.size := Nat.lt_of_lt_of_le pbl HLP.size
            have q1 : (0 : Int) ≤ (j : Int) := by omega
            have q2 : (j : Int) < pl := by omega
            have q3 : (j : Int) < 20 := by omega
            have hs := sumT_bd z j
            have hpb := part_bd (z j)
            have HTT := Lib.hid T
            have hsucc : sumT z (j + 1) = sumT z j + (part (z j)).toNat := rfl
            have HSU := Lib.hid hsucc
            have HIT := Lib.hid HT.out
            clear hz HLP hsucc T
            unfold part at hpb
            generalize hzj : z j = zz at *
            have HZJ := Lib.hid hzj
            clear hzj
            generalize hSj : sumT z j = S at *
            have okD := Bs.ticks_ok HG.out.ok S (by rw [HG.out.t]; omega)
            have OKD := Lib.hid okD
            have HS := Lib.hid hs
            clear okD hs
            go_upto_region 18 with (fail)
            generalize hq : Int.tmod zz 5000 = q at *
            have HQ := Lib.hid (show (part zz) = q from hq)
            obtain ⟨hq1, hq2⟩ := hpb
            clear d0 dl hq
            go_wp2_with fail
            refine (HTT.out.act 0 rfl (bus_tick OKD.out.1 q (by omega) (by rw [OKD.out.2, HG.out.t]; have := HS.out; omega))).mono ?_
            rintro e u1 ⟨rfl, U1⟩
            rw [← ticks_add] at U1
            have HU1 := Lib.hid (show Two w2 u1 b m c m1 (B.ticks (S + q.toNat)) B from U1)
            have sb : (S : Int) < 100001 := by have := HS.out; omega
            clear U1 HTT
            by_cases hq0 : 0 < q
            · go_wp2_with fail
              go_roundw
              case rel =>
                refine ⟨j + 1, by omega, by omega, by go_num, ?_, by rw [HSU.out, HQ.out]; exact HU1.out⟩
                rw [HSU.out, HQ.out]
                refine congrArg (Value.int .i64) (?_ : _ = _)
                omega
              case measure => (simp [intOf]) <;> omega
            · have hz0 : q.toNat = 0 := by omega
              have HZ0 := Lib.hid hz0
              have hqn : q ≤ 0 := by omega
              clear hq0 hz0 sb hq1 hq2
              go_wp2_with fail
              go_roundw
              case rel => exact ⟨j + 1, by omega, by omega, by go_num, by rw [HSU.out, HQ.out, HZ0.out, Nat.add_zero], by rw [HSU.out, HQ.out]; exact HU1.out⟩
              case measure => (simp [intOf]) <;> omega
          · by_cases hx2 : j < pl
            · have hj20 : ¬ ((j : Int) < 20) := by omega
              have hj3 : (j : Int) < pl := by omega
              have hs := sumT_bd z j
              have HS := Lib.hid hs
              have okD := Bs.ticks_ok HG.out.ok (sumT z j) (by rw [HG.out.t]; omega)
              have OKD := Lib.hid okD
              have HTT := Lib.hid T
              have hn0 : (0 : Int) ≤ (sumT z j : Nat) := by omega
              have HNN := Lib.hid (show ((sumT z j : Nat) : Int).toNat = sumT z j by omega)
              clear hs okD T
              generalize hS : sumT z j = S at *
              generalize hD : B.ticks S = D at *
              have HD := Lib.hid hD
              clear hS hD
              go_wp2_with fail
              refine (HTT.out.act 1 rfl (bus_tick HG.out.ok (S : Nat) (by have := HS.out; omega) (by rw [HG.out.t, HNN.out]; have := HS.out; omega))).mono ?_
              rintro e u1 ⟨rfl, U1⟩
              rw [HNN.out, HD.out] at U1
              have HU1 := Lib.hid (show Two w2 u1 b m c m1 D D from U1)
              clear U1 HTT
              go_wp2_with fail
              refine (HU1.out.act 0 rfl (bus_in OKD.out.1 64 1 (by decide) (.inl rfl))).mono ?_
              rintro e u2 ⟨rfl, U2⟩
              have HU2 := Lib.hid (show Two w2 u2 b m c m1 (D.inS 64 1) D from U2)
              clear U2 HU1
              go_wp2_with fail
              refine (HU2.out.act 1 rfl (bus_in OKD.out.1 64 1 (by decide) (.inl rfl))).mono ?_
              rintro e u3 ⟨rfl, U3⟩
              have HU3 := Lib.hid (show Two w2 u3 b m c m1 (D.inS 64 1) (D.inS 64 1) from U3)
              have OK3 := Lib.hid (Bs.inS_ok OKD.out.1 64 1)
              clear U3 HU2
              generalize D.inS 64 1 = F at *
              go_wp2_with fail
              refine (HU3.out.act 0 rfl bus_now).mono ?_
              rintro e u4 ⟨rfl, U4⟩
              have HU4 := Lib.hid (show Two w2 u4 b m c m1 F F from U4)
              clear U4 HU3
              go_wp2_with fail
              refine (HU4.out.act 1 rfl bus_now).mono ?_
              rintro e u5 ⟨rfl, U5⟩
              have HU5 := Lib.hid (show Two w2 u5 b m c m1 F F from U5)
              clear U5 HU4
              go_wp2_with fail
              refine (HU5.out.act 0 rfl bus_pending).mono ?_
              rintro e u6 ⟨rfl, U6⟩
              have HU6 := Lib.hid (show Two w2 u6 b m c m1 F F from U6)
              clear U6 HU5
              go_wp2_with fail
              refine (HU6.out.act 1 rfl bus_pending).mono ?_
              rintro e u7 ⟨rfl, U7⟩
              have HU7 := Lib.hid (show Two w2 u7 b m c m1 F F from U7)
              clear U7 HU6
              go_wp2_with fail
              refine (HU7.out.act 0 rfl (bus_ack OK3.out)).mono ?_
              rintro e u8 ⟨rfl, U8⟩
              have HU8 := Lib.hid (show Two w2 u8 b m c m1 F.ack F from U8)
              clear U8 HU7
              go_wp2_with fail
              refine (HU8.out.act 1 rfl (bus_ack OK3.out)).mono ?_
              rintro e u9 ⟨rfl, U9⟩
              have HU9 := Lib.hid (show Two w2 u9 b m c m1 F.ack F.ack from U9)
              clear U9 HU8
              go_wp2_with fail
              go_ret
              exact ⟨rfl, step_below HW2.out HU9.out.below (Nat.le_refl _)⟩
            · have hj3 : ¬ ((j : Int) < pl) := by omega
              have hs := sumT_bd z j
              have HS := Lib.hid hs
              have okD := Bs.ticks_ok HG.out.ok (sumT z j) (by rw [HG.out.t]; omega)
              have OKD := Lib.hid okD
              have HTT := Lib.hid T
              have hn0 : (0 : Int) ≤ (sumT z j : Nat) := by omega
              have HNN := Lib.hid (show ((sumT z j : Nat) : Int).toNat = sumT z j by omega)
              clear hs okD T
              generalize hS : sumT z j = S at *
              generalize hD : B.ticks S = D at *
              have HD := Lib.hid hD
              clear hS hD
              go_wp2_with fail
              refine (HTT.out.act 1 rfl (bus_tick HG.out.ok (S : Nat) (by have := HS.out; omega) (by rw [HG.out.t, HNN.out]; have := HS.out; omega))).mono ?_
              rintro e u1 ⟨rfl, U1⟩
              rw [HNN.out, HD.out] at U1
              have HU1 := Lib.hid (show Two w2 u1 b m c m1 D D from U1)
              clear U1 HTT
              go_wp2_with fail
              refine (HU1.out.act 0 rfl (bus_in OKD.out.1 64 1 (by decide) (.inl rfl))).mono ?_
              rintro e u2 ⟨rfl, U2⟩
              have HU2 := Lib.hid (show Two w2 u2 b m c m1 (D.inS 64 1) D from U2)
              clear U2 HU1
              go_wp2_with fail
              refine (HU2.out.act 1 rfl (bus_in OKD.out.1 64 1 (by decide) (.inl rfl))).mono ?_
              rintro e u3 ⟨rfl, U3⟩
              have HU3 := Lib.hid (show Two w2 u3 b m c m1 (D.inS 64 1) (D.inS 64 1) from U3)
              have OK3 := Lib.hid (Bs.inS_ok OKD.out.1 64 1)
              clear U3 HU2
              generalize D.inS 64 1 = F at *
              go_wp2_with fail
              refine (HU3.out.act 0 rfl bus_now).mono ?_
              rintro e u4 ⟨rfl, U4⟩
              have HU4 := Lib.hid (show Two w2 u4 b m c m1 F F from U4)
              clear U4 HU3
              go_wp2_with fail
              refine (HU4.out.act 1 rfl bus_now).mono ?_
              rintro e u5 ⟨rfl, U5⟩
              have HU5 := Lib.hid (show Two w2 u5 b m c m1 F F from U5)
              clear U5 HU4
              go_wp2_with fail
              refine (HU5.out.act 0 rfl bus_pending).mono ?_
              rintro e u6 ⟨rfl, U6⟩
              have HU6 := Lib.hid (show Two w2 u6 b m c m1 F F from U6)
              clear U6 HU5
              go_wp2_with fail
              refine (HU6.out.act 1 rfl bus_pending).mono ?_
              rintro e u7 ⟨rfl, U7⟩
              have HU7 := Lib.hid (show Two w2 u7 b m c m1 F F from U7)
              clear U7 HU6
              go_wp2_with fail
              refine (HU7.out.act 0 rfl (bus_ack OK3.out)).mono ?_
              rintro e u8 ⟨rfl, U8⟩
              have HU8 := Lib.hid (show Two w2 u8 b m c m1 F.ack F from U8)
              clear U8 HU7
              go_wp2_with fail
              refine (HU8.out.act 1 rfl (bus_ack OK3.out)).mono ?_
              rintro e u9 ⟨rfl, U9⟩
              have HU9 := Lib.hid (show Two w2 u9 b m c m1 F.ack F.ack from U9)
              clear U9 HU8
              go_wp2_with fail
              go_ret
              exact ⟨rfl, step_below HW2.out HU9.out.below (Nat.le_refl _)⟩

set_option maxRecDepth 100000 in
theorem lifted (os : Os) (started : os.Started) (H : Type) (enc : TypeId × Value → H) :
    ReturnsInHanded {} Try.checked os 3 .any (Rows.busTicksSpec.pre6 enc Try.prog Try.f3 Rows.busTicksRow.domain false) (Rows.busTicksSpec.post enc Try.prog Try.f3 false true false false) := by
  refine returnsInHanded_of_change (C := Try.checked) own started (by kernel_rfl) Try.func3
    (ChangeSpec.witness6 (enc := enc) (C := Try.checked) false ⟨#[], #[.slice none 0 0, .slice none 0 0], []⟩ 8 (by kernel_rfl) (by kernel_rfl) (by kernel_rfl) (by kernel_rfl)) ?_
  intro W base args ds gs before hval0 hW hcnd _
  have hval : ∀ (j : Nat) t v, Try.f3.params[j]? = some t → args[j]? = some v → Value.okWide Try.prog W .any base t v := hval0
  have hW' := hW
  obtain ⟨p, q, hA0, hV, rfl, hfz, hnd⟩ := hW
  have hA : DataW.TrodAll enc Try.prog W 0 (fun _ => true) true Try.f3.params.toList args.toList ds p := hA0
  rw [Try.params3] at hA hval
  obtain ⟨v0, vs0, d0, ds0, p0, q0, hargs, rfl, rfl, h0, r0⟩ := trodAll_cons hA
  obtain ⟨v1, vs1, d1, ds1, p1, q1, rfl, rfl, rfl, h1, r1⟩ := trodAll_cons r0
  obtain ⟨rfl, rfl, rfl⟩ := trodAll_nil r1
  obtain rfl : args = #[v0, v1] := by cases args; simp_all
  clear hA0 hval0
  obtain ⟨a0, n0, c0, ki0, pt0, sz0, x0, rfl, m0, J0⟩ := arg_ops (hval 0 22 v0 rfl rfl) h0
  obtain ⟨a1, n1, c1, z1, rfl, m1, J1⟩ := arg_ints Try.underlying23 Try.underlying3 (by kernel_rfl) (hval 1 23 v1 rfl rfl) h1
  exact law_end (by kernel_rfl) hW' rfl (by kernel_rfl) Try.underlying4 rfl rfl (walk W a0 n0 c0 ki0 pt0 sz0 x0 m0 J0 a1 n1 c1 z1 m1 J1)

theorem proved : Rows.BusTicksSaid :=
  OpenClaim.holds_of_wide 3 Try.f3 rfl rfl rfl rfl rfl rfl rfl ⟨rfl, rfl, rfl, rfl, rfl⟩ rfl rfl rfl rfl rfl (by kernel_rfl) Try.func3 (by kernel_rfl)
    (of_decide_eq_true (by kernel_rfl)) (by unfold Func.isWrapper; first | (rw [if_pos (by decide +kernel)]; kernel_rfl) | (rw [if_neg (by decide +kernel)]; exact ⟨rfl, rfl⟩))
    (fun os started H enc _ => lifted os started H enc)
#print axioms proved
end Go.Proofs.Ytojmpdddfnkffaa.busTicks
