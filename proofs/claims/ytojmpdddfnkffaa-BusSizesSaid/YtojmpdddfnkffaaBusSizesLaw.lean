/- 'drawloom/drawloomlaw15.BusSizes' answers true for every input. Conditions: none. -/
import Derived.Test.YtojmpdddfnkffaaFrame
import Derived.Test.YtojmpdddfnkffaaMbusd
import Derived.Deep.RegionWith
import Derived.Test.YtojmpdddfnkffaaMided
namespace Go.Proofs.Ytojmpdddfnkffaa.busSizes
open Go.ChangeShapes Go.WideShapes Go.ChangeAt Go.RowKit
set_option linter.unusedVariables false

theorem law_oks {w0 w : World} {A0 : Nat → Prop} {os : List Ob} {b pm : Nat} {B : Bs} (T : Hp w0 A0 w os) (i : Nat) (hi : os[i]? = some (oBus b pm B)) : Oks B := by
  obtain ⟨A, ⟨pp, pt, pu, pi, mp⟩, a⟩ := T.get i hi
  exact (Hp.start a).oks
theorem add_at (V n k : Nat) (hV : V < 256 ^ k) (hn : n < 256) (hk : k < 4) : (((V : Int) + (n : Int) * 2 ^ (8 * k) % 4294967296) % 4294967296 = ((V + n * 256 ^ k : Nat) : Int)) ∧ V + n * 256 ^ k < 256 ^ (k + 1) := by
  have hp : (256 : Nat) ^ k = 2 ^ (8 * k) := by rw [Nat.pow_mul]
  have h1 : n * 256 ^ k ≤ 255 * 256 ^ k := Nat.mul_le_mul_right _ (by omega)
  have h2 : 256 ^ (k + 1) ≤ 256 ^ 4 := Nat.pow_le_pow_right (by decide) (by omega)
  have h3 : V + n * 256 ^ k < 256 ^ (k + 1) := by rw [Nat.pow_succ]; omega
  refine ⟨?_, h3⟩
  rw [show ((n : Nat) : Int) * 2 ^ (8 * k) = ((n * 256 ^ k : Nat) : Int) by rw [hp]; simp]
  omega
theorem byte_at (V k : Nat) : ((V : Int) / 2 ^ (8 * k)).tmod 256 = ((V / 256 ^ k % 256 : Nat) : Int) := by
  have e : ((V : Int) / 2 ^ (8 * k)) = ((V / 256 ^ k : Nat) : Int) := by
    rw [show (256 : Nat) ^ k = 2 ^ (8 * k) by rw [Nat.pow_mul]]
    simp
  rw [e, Int.tmod_eq_emod_of_nonneg (Int.natCast_nonneg _)]
  omega
theorem conv_at {w0 w : World} {A0 : Nat → Prop} {os : List Ob} {v : Value} {L : List Nat} (T : Hp w0 A0 w os) (i : Nat) (hi : os[i]? = some (oRow 5 v L.length (Uart.bytesV L))) :
    (convert 30 9 v).run Try.prog w = .ok (.string (Uart.strL L)) w := by
  obtain ⟨A, hr, -⟩ := T.get i hi
  exact Uart.conv_row hr
theorem convd_at {w0 w : World} {A0 : Nat → Prop} {os : List Ob} {v : Value} {n : Nat} {d : Nat → Nat} (T : Hp w0 A0 w os) (i : Nat) (hi : os[i]? = some (oRow 5 v n (Ide.bytesL n d))) :
    (convert 30 9 v).run Try.prog w = .ok (.string (Ide.strOf n d)) w := by
  obtain ⟨A, hr, -⟩ := T.get i hi
  exact Ide.conv_row hr
set_option maxRecDepth 20000 in
set_option maxHeartbeats 16000000 in
theorem walk (w : World) (sa : Option Addr) (sl sc : Nat) (kd : Nat → Int) (pt : Nat → Nat) (sz : Nat → Int) (xv : Nat → Nat) (hsl : sl ≤ 9223372036854775807) (J : OpsIn w sa sl kd pt sz xv)
    (p0 : Int) (l1 : 0 ≤ p0) (u1 : p0 ≤ 65535) (wd : Bool) (v0 : Int) (l3 : 0 ≤ v0) (u3 : v0 ≤ 4294967295) :
    Calls Try.prog 4 #[.slice sa sl sc, .int .u16 p0, .bool wd, .int .u32 v0] w fun e w' => e = .returned (.bool true) ∧ Below w.heap.size w w' := by
  obtain ⟨p, rfl⟩ := Int.eq_ofNat_of_zero_le l1
  obtain ⟨v, rfl⟩ := Int.eq_ofNat_of_zero_le l3
  have HPV := Lib.hid (show p < 65536 ∧ v < 4294967296 by omega)
  clear l1 u1 l3 u3
  go_enter Try.func4, Try.ntmps4
  go_wp2_with fail
  refine (bus_awake _).mono ?_
  rintro e w1 ⟨rfl, hb1⟩
  have HB := Lib.hid hb1
  clear hb1
  go_wp2_with fail
  refine (Ide.lawdisk_any 2 (by decide) (by decide) 0 (by decide) w1).mono ?_
  rintro e w2 ⟨v, rfl, hr, hb⟩
  have HR := Lib.hid (And.intro (Reads_law (n := 2) hr) (step_below HB.out hb (Nat.le_refl _)))
  obtain ⟨va, vc, rfl, -⟩ := Reads_law (n := 2) hr
  clear hr hb
  go_wp2_with fail
  refine (both_any w2 _ 1 (by decide) (by decide) HR.out.1 (by decide) (Ide.dsk_lt 0)).mono ?_
  rintro e w3 ⟨b, c0, m, r0, rfl, T⟩
  have HT3 := Lib.hid (show Hp w2 (fun _ => False) w3 [oBus b m (B0 1 2)] from two_new w2 w3 T)
  clear T
  go_wp2_with fail
  refine (Ide.lawdisk_any 2 (by decide) (by decide) 0 (by decide) w3).mono ?_
  rintro e w4 ⟨v4, rfl, hr, hb⟩
  have HT4 := Lib.hid (HT3.out.grow hb)
  have HR4 := Lib.hid (Reads_law (n := 2) hr)
  obtain ⟨va4, vc4, rfl, -⟩ := Reads_law (n := 2) hr
  clear hr hb
  go_wp2_with fail
  refine (both_any w4 _ 1 (by decide) (by decide) HR4.out (by decide) (Ide.dsk_lt 0)).mono ?_
  rintro e w5 ⟨c, c1, m1, r1, rfl, T⟩
  have T5 : Two w2 w5 b m c m1 (B0 1 2) (B0 1 2) := HT4.out.both (two_new w4 w5 T)
  have HT5 := Lib.hid T5
  have HW2 := Lib.hid HR.out.2
  clear T T5 HT3 HT4 HR HR4
  go_wp2_with fail
  go_loopw [16] (fun i wc => ∃ (k : Nat) (B : Bs), k ≤ sl ∧ k ≤ 100 ∧ i = .int .i64 k ∧ Good B k ∧ Two w2 wc b m c m1 B B) (fun i _ => 100 - (intOf i).toNat)
  case atStart => exact ⟨0, _, by omega, by omega, rfl, Good.start 1 2, HT5.out⟩
  case round =>
    obtain ⟨k, B, hk, hk2, rfl, G, T⟩ := hrel
    have HG := Lib.hid G
    have HT := Lib.hid T
    have HL := Lib.hid (step_below HW2.out T.below (Nat.le_refl _))
    clear G T HT5
    by_cases hlt : k < sl ∧ k < 100
    · obtain ⟨h1, h2⟩ := hlt
      obtain ⟨kb, ko, rfl, A2⟩ : ∃ b off, sa = some ⟨b, off, none⟩ ∧ OpsAt w b off sl kd pt sz xv := by
        rcases J with h | h
        · omega
        · exact h
      have AT := A2.below HL.out A2.hb
      have c0 := AT.c0 k h1
      have c1 := AT.c1 k h1
      have c2 := AT.c2 k h1
      have c3 := AT.c3 k h1
      have HU := Lib.hid (And.intro (AT.u1 k h1) (AT.u3 k h1))
      have p1 : (0 : Int) ≤ (k : Int) := by omega
      have p2 : (k : Int) < sl := by omega
      have p3 : (k : Int) < 100 := by omega
      have hl := AT.hb
      clear A2 AT
      generalize kd k = kk at *
      generalize pt k = pp at *
      generalize sz k = ss at *
      generalize xv k = xx at *
      go_upto_region 10 with (fail)
      have T1 := HT.out.make (.cells #[.int .i64 kk, .int .u16 (pp : Nat), .int .i64 ss, .int .u32 (xx : Nat)] 35)
      generalize wr.alloc (.cells #[.int .i64 kk, .int .u16 (pp : Nat), .int .i64 ss, .int .u32 (xx : Nat)] 35) = wz at *
      generalize wr.heap.size = g at *
      have hO := T1.box 2 rfl
      have z0 : wz.cell? ⟨g, 0, none⟩ = some (.int .i64 kk) := by rw [cell_at hO]; rfl
      have z1 : wz.cell? ⟨g, 1, none⟩ = some (.int .u16 (pp : Nat)) := by rw [cell_at hO]; rfl
      have z2 : wz.cell? ⟨g, 2, none⟩ = some (.int .i64 ss) := by rw [cell_at hO]; rfl
      have z3 : wz.cell? ⟨g, 3, none⟩ = some (.int .u32 (xx : Nat)) := by rw [cell_at hO]; rfl
      have zl := heap_lt hO
      have HT1 := Lib.hid T1
      clear c0 c1 c2 c3 hl hO T1 HT
      by_cases hk1 : kk = 1
      · subst hk1
        go_wp2_with fail
        refine (HT1.out.act 0 rfl (bus_any HG.out.ok (HG.out.f.le (by omega)) pp ss xx HU.out.1 HU.out.2)).mono ?_
        rintro e w6 ⟨rfl, T6⟩
        have hO := T6.box 2 rfl
        clear z0 z1 z2 z3 zl
        have z0 : w6.cell? ⟨g, 0, none⟩ = some (.int .i64 1) := by rw [cell_at hO]; rfl
        have z1 : w6.cell? ⟨g, 1, none⟩ = some (.int .u16 (pp : Nat)) := by rw [cell_at hO]; rfl
        have z2 : w6.cell? ⟨g, 2, none⟩ = some (.int .i64 ss) := by rw [cell_at hO]; rfl
        have z3 : w6.cell? ⟨g, 3, none⟩ = some (.int .u32 (xx : Nat)) := by rw [cell_at hO]; rfl
        have zl := heap_lt hO
        have HT6 := Lib.hid T6
        clear T6 hO HT1
        go_wp2_with fail
        refine (HT6.out.act 1 rfl (bus_any HG.out.ok (HG.out.f.le (by omega)) pp ss xx HU.out.1 HU.out.2)).mono ?_
        rintro e w7 ⟨rfl, T7⟩
        have HT7 := Lib.hid (show Two w2 w7 b m c m1 (B.any pp ss xx) (B.any pp ss xx) from Hp.left (l1 := [oBus b m (B.any pp ss xx), oBus c m1 (B.any pp ss xx)]) T7)
        clear T7 z0 z1 z2 z3 zl HT6
        go_wp2_with fail
        go_roundw
        case rel => exact ⟨k + 1, _, by omega, by omega, by go_num, HG.out.any pp ss xx, HT7.out⟩
        case measure => (simp [intOf]) <;> omega
      · have e1 : (kk == 1) = false := by simpa using hk1
        clear hk1
        go_wp2_with fail
        go_roundw
        case rel => exact ⟨k + 1, B, by omega, by omega, by go_num, HG.out.next, Hp.left (l1 := [oBus b m B, oBus c m1 B]) HT1.out⟩
        case measure => (simp [intOf]) <;> omega
    · by_cases hx : k < sl
      · have hk100 : ¬ ((k : Int) < 100) := by omega
        have hk3 : (k : Int) < sl := by omega
        by_cases h9 : p = 496
        · subst h9
          go_wp2_with fail
          go_ret
          exact ⟨rfl, step_below HW2.out HT.out.below (Nat.le_refl _)⟩
        · have e9 : ((p : Int) == 496) = false := by simp; omega
          have H9 := Lib.hid h9
          clear h9
          cases wd
          · go_wp2_with fail
            refine (HT.out.act 0 rfl (bus_in HG.out.ok p 2 HPV.out.1 (by decide))).mono ?_
            rintro e u1 ⟨rfl, U1⟩
            have HT1 := Lib.hid (show Two w2 u1 b m c m1 (B.inS p 2) B from U1)
            clear U1 HT
            go_wp2_with fail
            go_loopw [21, 22] (fun y i wc => ∃ (j : Nat), j ≤ 2 ∧ i = .int .i64 j ∧ y = .int .u32 (B.insV p j : Nat) ∧ (∀ q, q < j → (B.nar p q).k.inV 0 1 < 256) ∧ B.insV p j < 256 ^ j ∧ Two w2 wc b m c m1 (B.inS p 2) (B.nar p j)) (fun y i _ => 2 - (intOf i).toNat)
            case atStart => exact ⟨0, by omega, rfl, rfl, fun q hq => by omega, Nat.zero_lt_one, HT1.out⟩
            case round =>
              obtain ⟨j, hj, rfl, rfl, hd, hvb, T⟩ := hrel
              have HT2 := Lib.hid T
              have HD := Lib.hid hd
              have HVB := Lib.hid hvb
              clear hd hvb
              by_cases hlt2 : j < 2
              · have hd2 : ∀ q, q ≤ j → (B.nar p q).k.inV 0 1 < 256 := fun q hq => by
                  by_cases e : q = j
                  · subst e; exact T.dk8 1 rfl
                  · exact HD.out q (by omega)
                have hnv := nar_val HPV.out.1 HG.out.same j hd2 (by omega)
                have hn8 : (B.insS p j).inPV ((p + j) % 65536) < 256 := by
                  rw [← hnv, (in_one _ _ (Nat.mod_lt _ (by decide)) (hd2 j (Nat.le_refl j))).1]
                  exact Bs.inP_bd (law_oks T 1 rfl) _
                have hsu : B.insV p (j + 1) = B.insV p j + (B.insS p j).inPV ((p + j) % 65536) * 256 ^ j := rfl
                have hkey : IntKind.u16.wrap ((p : Int) + (j : Int)) = (((p + j) % 65536 : Nat) : Int) := by rw [IntKind.wrap_u16]; omega
                have hw : IntKind.i64.wrap (8 * (j : Int)) = 8 * (j : Int) := IntWalk.i64_in _ (by omega)
                have r2 : (0 : Int) ≤ 8 * (j : Int) := by omega
                have r3 : (8 : Int) * (j : Int) ≤ 32 := by omega
                have r4 : (j : Int) < 2 := by omega
                have HD2 := Lib.hid hd2
                have HNV := Lib.hid hnv
                have HOK := Lib.hid (nar_ok HG.out.ok p j)
                clear hd2 hnv T
                generalize (B.insS p j).inPV ((p + j) % 65536) = nv at *
                have hn0 : (0 : Int) ≤ (nv : Int) := by omega
                have hn1 : (nv : Int) < 256 := by omega
                have hj4 := add_at (B.insV p j) nv j HVB.out hn8 (by omega)
                have HSU := Lib.hid (And.intro hsu hj4)
                clear hsu hn8 hj4
                generalize B.insV p j = V at *
                go_wp2_with fail
                refine (HT2.out.act 1 rfl (bus_in HOK.out ((p + j) % 65536) 1 (Nat.mod_lt _ (by decide)) (.inl rfl))).mono ?_
                rintro e u3 ⟨rfl, U3⟩
                have HU3 := Lib.hid (show Two w2 u3 b m c m1 (B.inS p 2) (B.nar p (j + 1)) from U3)
                clear U3 HT2
                rw [HNV.out]
                go_wp2_with fail
                go_roundw
                case rel =>
                  refine ⟨j + 1, by omega, by go_num, ?_, fun q hq => HD2.out q (by omega), ?_, HU3.out⟩
                  · rw [HSU.out.1]
                    refine congrArg (Value.int .u32) (?_ : _ = _)
                    exact HSU.out.2.1
                  · rw [HSU.out.1]; exact HSU.out.2.2
                case measure => (simp [intOf]) <;> omega
              · obtain rfl : j = 2 := by omega
                have HW8 := Lib.hid (And.intro HD.out HVB.out)
                have hx : B.wideV p 2 = B.insV p 2 := if_neg H9.out
                rw [← hx]
                have HX := Lib.hid hx
                have HX2 := Lib.hid (HX.out ▸ HVB.out : B.wideV p 2 < 256 ^ 2)
                generalize B.wideV p 2 = X at *
                clear T HT1 hx
                go_wp2_with fail
                refine (HT2.out.act 0 rfl (bus_out (Bs.inS_ok HG.out.ok p 2) ((inS_fits HG.out.f p 2).le (by omega)) p 2 v HPV.out.1 (by decide) HPV.out.2)).mono ?_
                rintro e u4 ⟨rfl, U4⟩
                have HU4 := Lib.hid (show Two w2 u4 b m c m1 ((B.inS p 2).out p 2 v) (B.nar p 2) from U4)
                clear U4 HT2
                go_wp2_with fail
                go_loopw [25] (fun i wc => ∃ (j : Nat), j ≤ 2 ∧ i = .int .i64 j ∧ Two w2 wc b m c m1 ((B.inS p 2).out p 2 v) ((B.nar p 2).nout p v j)) (fun i _ => 2 - (intOf i).toNat)
                case atStart => exact ⟨0, by omega, rfl, HU4.out⟩
                case round =>
                  obtain ⟨j, hj, rfl, T⟩ := hrel
                  have HT5 := Lib.hid T
                  clear T
                  by_cases hlt3 : j < 2
                  · have hkey : IntKind.u16.wrap ((p : Int) + (j : Int)) = (((p + j) % 65536 : Nat) : Int) := by rw [IntKind.wrap_u16]; omega
                    have hw : IntKind.i64.wrap (8 * (j : Int)) = 8 * (j : Int) := IntWalk.i64_in _ (by omega)
                    have r2 : (0 : Int) ≤ 8 * (j : Int) := by omega
                    have r3 : (8 : Int) * (j : Int) ≤ 32 := by omega
                    have r4 : (j : Int) < 2 := by omega
                    go_wp2_with fail
                    first | rw [byte_at v j] | rw [Ide.shr_nat v j]
                    refine (HT5.out.act 1 rfl (bus_out (nout_ok (nar_ok HG.out.ok p 2) p v j) ((nout_fits (nar_fits HG.out.f p 2) p v j).le (by omega)) ((p + j) % 65536) 1 (v / 256 ^ j % 256) (Nat.mod_lt _ (by decide)) (.inl rfl) (by have : v / 256 ^ j % 256 < 256 := Nat.mod_lt _ (by decide); omega))).mono ?_
                    rintro e u6 ⟨rfl, U6⟩
                    have HU6 := Lib.hid (show Two w2 u6 b m c m1 ((B.inS p 2).out p 2 v) ((B.nar p 2).nout p v (j + 1)) from U6)
                    clear U6 HT5
                    go_wp2_with fail
                    go_roundw
                    case rel => exact ⟨j + 1, by omega, by go_num, HU6.out⟩
                    case measure => (simp [intOf]) <;> omega
                  · obtain rfl : j = 2 := by omega
                    have hE := sizes_end (v := v) H9.out HW8.out.1
                    generalize (B.inS p 2).out p 2 v = Y at *
                    generalize (B.nar p 2).nout p v 2 = Z at *
                    have HE := Lib.hid hE
                    clear hE HU4
                    go_upto_region 34 with (fail)
                    have T6 := Lib.hid (HT5.out.drew)
                    have hU : Z.u = Y.u := HE.out.u.symm
                    have hK : Z.k = Y.k := HE.out.k.symm
                    have HUK := Lib.hid (And.intro hU hK)
                    clear hU hK HE
                    go_region_with (first
                      | (go_at_call 16; (with_reducible refine (sent_call T6.out 0 rfl).mono ?_); rintro e u7 ⟨s7, rfl, U7⟩; have cv7 : (convert 30 9 s7).run Try.prog u7 = .ok (.string (Uart.strL Y.u.sent)) u7 := conv_at U7 2 rfl; have HU7 := Lib.hid U7; clear U7)
                      | (go_at_call 16; (with_reducible refine (sent_call HU7.out 1 rfl).mono ?_); rintro e u8 ⟨s8, rfl, U8⟩; rw [HUK.out.1] at U8; have cv8 : (convert 30 9 s8).run Try.prog u8 = .ok (.string (Uart.strL Y.u.sent)) u8 := conv_at U8 3 rfl; have cw8 : (convert 30 9 s7).run Try.prog u8 = .ok (.string (Uart.strL Y.u.sent)) u8 := conv_at U8 2 rfl; have HU8 := Lib.hid U8; clear U8)
                      | (go_at_call 17; (with_reducible refine (disk_call HU8.out 0 rfl).mono ?_); rintro e u9 ⟨s9, rfl, U9⟩; have cv9 : (convert 30 9 s9).run Try.prog u9 = .ok (.string (Ide.strOf (Y.k.n * 512) Y.k.d)) u9 := convd_at U9 4 rfl; have HU9 := Lib.hid U9; clear U9)
                      | (go_at_call 17; (with_reducible refine (disk_call HU9.out 1 rfl).mono ?_); rintro e u10 ⟨s10, rfl, U10⟩; replace U10 : Hp w2 (fun _ => False) u10 _ := U10; have cv10 : (convert 30 9 s10).run Try.prog u10 = .ok (.string (Ide.strOf (Y.k.n * 512) Y.k.d)) u10 := (HUK.out.2 ▸ convd_at U10 5 rfl); have cw10 : (convert 30 9 s9).run Try.prog u10 = .ok (.string (Ide.strOf (Y.k.n * 512) Y.k.d)) u10 := convd_at U10 4 rfl; have HU10 := Lib.hid U10; clear U10))
                    all_goals
                      go_wp2_with fail
                      go_ret
                      exact ⟨rfl, step_below HW2.out HU10.out.below (Nat.le_refl _)⟩

          · go_wp2_with fail
            refine (HT.out.act 0 rfl (bus_in HG.out.ok p 4 HPV.out.1 (by decide))).mono ?_
            rintro e u1 ⟨rfl, U1⟩
            have HT1 := Lib.hid (show Two w2 u1 b m c m1 (B.inS p 4) B from U1)
            clear U1 HT
            go_wp2_with fail
            go_loopw [21, 22] (fun y i wc => ∃ (j : Nat), j ≤ 4 ∧ i = .int .i64 j ∧ y = .int .u32 (B.insV p j : Nat) ∧ (∀ q, q < j → (B.nar p q).k.inV 0 1 < 256) ∧ B.insV p j < 256 ^ j ∧ Two w2 wc b m c m1 (B.inS p 4) (B.nar p j)) (fun y i _ => 4 - (intOf i).toNat)
            case atStart => exact ⟨0, by omega, rfl, rfl, fun q hq => by omega, Nat.zero_lt_one, HT1.out⟩
            case round =>
              obtain ⟨j, hj, rfl, rfl, hd, hvb, T⟩ := hrel
              have HT2 := Lib.hid T
              have HD := Lib.hid hd
              have HVB := Lib.hid hvb
              clear hd hvb
              by_cases hlt2 : j < 4
              · have hd2 : ∀ q, q ≤ j → (B.nar p q).k.inV 0 1 < 256 := fun q hq => by
                  by_cases e : q = j
                  · subst e; exact T.dk8 1 rfl
                  · exact HD.out q (by omega)
                have hnv := nar_val HPV.out.1 HG.out.same j hd2 (by omega)
                have hn8 : (B.insS p j).inPV ((p + j) % 65536) < 256 := by
                  rw [← hnv, (in_one _ _ (Nat.mod_lt _ (by decide)) (hd2 j (Nat.le_refl j))).1]
                  exact Bs.inP_bd (law_oks T 1 rfl) _
                have hsu : B.insV p (j + 1) = B.insV p j + (B.insS p j).inPV ((p + j) % 65536) * 256 ^ j := rfl
                have hkey : IntKind.u16.wrap ((p : Int) + (j : Int)) = (((p + j) % 65536 : Nat) : Int) := by rw [IntKind.wrap_u16]; omega
                have hw : IntKind.i64.wrap (8 * (j : Int)) = 8 * (j : Int) := IntWalk.i64_in _ (by omega)
                have r2 : (0 : Int) ≤ 8 * (j : Int) := by omega
                have r3 : (8 : Int) * (j : Int) ≤ 32 := by omega
                have r4 : (j : Int) < 4 := by omega
                have HD2 := Lib.hid hd2
                have HNV := Lib.hid hnv
                have HOK := Lib.hid (nar_ok HG.out.ok p j)
                clear hd2 hnv T
                generalize (B.insS p j).inPV ((p + j) % 65536) = nv at *
                have hn0 : (0 : Int) ≤ (nv : Int) := by omega
                have hn1 : (nv : Int) < 256 := by omega
                have hj4 := add_at (B.insV p j) nv j HVB.out hn8 (by omega)
                have HSU := Lib.hid (And.intro hsu hj4)
                clear hsu hn8 hj4
                generalize B.insV p j = V at *
                go_wp2_with fail
                refine (HT2.out.act 1 rfl (bus_in HOK.out ((p + j) % 65536) 1 (Nat.mod_lt _ (by decide)) (.inl rfl))).mono ?_
                rintro e u3 ⟨rfl, U3⟩
                have HU3 := Lib.hid (show Two w2 u3 b m c m1 (B.inS p 4) (B.nar p (j + 1)) from U3)
                clear U3 HT2
                rw [HNV.out]
                go_wp2_with fail
                go_roundw
                case rel =>
                  refine ⟨j + 1, by omega, by go_num, ?_, fun q hq => HD2.out q (by omega), ?_, HU3.out⟩
                  · rw [HSU.out.1]
                    refine congrArg (Value.int .u32) (?_ : _ = _)
                    exact HSU.out.2.1
                  · rw [HSU.out.1]; exact HSU.out.2.2
                case measure => (simp [intOf]) <;> omega
              · obtain rfl : j = 4 := by omega
                have HW8 := Lib.hid (And.intro HD.out HVB.out)
                have hx : B.wideV p 4 = B.insV p 4 := if_neg H9.out
                rw [← hx]
                have HX := Lib.hid hx
                have HX2 := Lib.hid (HX.out ▸ HVB.out : B.wideV p 4 < 256 ^ 4)
                generalize B.wideV p 4 = X at *
                clear T HT1 hx
                go_wp2_with fail
                refine (HT2.out.act 0 rfl (bus_out (Bs.inS_ok HG.out.ok p 4) ((inS_fits HG.out.f p 4).le (by omega)) p 4 v HPV.out.1 (by decide) HPV.out.2)).mono ?_
                rintro e u4 ⟨rfl, U4⟩
                have HU4 := Lib.hid (show Two w2 u4 b m c m1 ((B.inS p 4).out p 4 v) (B.nar p 4) from U4)
                clear U4 HT2
                go_wp2_with fail
                go_loopw [25] (fun i wc => ∃ (j : Nat), j ≤ 4 ∧ i = .int .i64 j ∧ Two w2 wc b m c m1 ((B.inS p 4).out p 4 v) ((B.nar p 4).nout p v j)) (fun i _ => 4 - (intOf i).toNat)
                case atStart => exact ⟨0, by omega, rfl, HU4.out⟩
                case round =>
                  obtain ⟨j, hj, rfl, T⟩ := hrel
                  have HT5 := Lib.hid T
                  clear T
                  by_cases hlt3 : j < 4
                  · have hkey : IntKind.u16.wrap ((p : Int) + (j : Int)) = (((p + j) % 65536 : Nat) : Int) := by rw [IntKind.wrap_u16]; omega
                    have hw : IntKind.i64.wrap (8 * (j : Int)) = 8 * (j : Int) := IntWalk.i64_in _ (by omega)
                    have r2 : (0 : Int) ≤ 8 * (j : Int) := by omega
                    have r3 : (8 : Int) * (j : Int) ≤ 32 := by omega
                    have r4 : (j : Int) < 4 := by omega
                    go_wp2_with fail
                    first | rw [byte_at v j] | rw [Ide.shr_nat v j]
                    refine (HT5.out.act 1 rfl (bus_out (nout_ok (nar_ok HG.out.ok p 4) p v j) ((nout_fits (nar_fits HG.out.f p 4) p v j).le (by omega)) ((p + j) % 65536) 1 (v / 256 ^ j % 256) (Nat.mod_lt _ (by decide)) (.inl rfl) (by have : v / 256 ^ j % 256 < 256 := Nat.mod_lt _ (by decide); omega))).mono ?_
                    rintro e u6 ⟨rfl, U6⟩
                    have HU6 := Lib.hid (show Two w2 u6 b m c m1 ((B.inS p 4).out p 4 v) ((B.nar p 4).nout p v (j + 1)) from U6)
                    clear U6 HT5
                    go_wp2_with fail
                    go_roundw
                    case rel => exact ⟨j + 1, by omega, by go_num, HU6.out⟩
                    case measure => (simp [intOf]) <;> omega
                  · obtain rfl : j = 4 := by omega
                    have hE := sizes_end (v := v) H9.out HW8.out.1
                    generalize (B.inS p 4).out p 4 v = Y at *
                    generalize (B.nar p 4).nout p v 4 = Z at *
                    have HE := Lib.hid hE
                    clear hE HU4
                    go_upto_region 34 with (fail)
                    have T6 := Lib.hid (HT5.out.drew)
                    have hU : Z.u = Y.u := HE.out.u.symm
                    have hK : Z.k = Y.k := HE.out.k.symm
                    have HUK := Lib.hid (And.intro hU hK)
                    clear hU hK HE
                    go_region_with (first
                      | (go_at_call 16; (with_reducible refine (sent_call T6.out 0 rfl).mono ?_); rintro e u7 ⟨s7, rfl, U7⟩; have cv7 : (convert 30 9 s7).run Try.prog u7 = .ok (.string (Uart.strL Y.u.sent)) u7 := conv_at U7 2 rfl; have HU7 := Lib.hid U7; clear U7)
                      | (go_at_call 16; (with_reducible refine (sent_call HU7.out 1 rfl).mono ?_); rintro e u8 ⟨s8, rfl, U8⟩; rw [HUK.out.1] at U8; have cv8 : (convert 30 9 s8).run Try.prog u8 = .ok (.string (Uart.strL Y.u.sent)) u8 := conv_at U8 3 rfl; have cw8 : (convert 30 9 s7).run Try.prog u8 = .ok (.string (Uart.strL Y.u.sent)) u8 := conv_at U8 2 rfl; have HU8 := Lib.hid U8; clear U8)
                      | (go_at_call 17; (with_reducible refine (disk_call HU8.out 0 rfl).mono ?_); rintro e u9 ⟨s9, rfl, U9⟩; have cv9 : (convert 30 9 s9).run Try.prog u9 = .ok (.string (Ide.strOf (Y.k.n * 512) Y.k.d)) u9 := convd_at U9 4 rfl; have HU9 := Lib.hid U9; clear U9)
                      | (go_at_call 17; (with_reducible refine (disk_call HU9.out 1 rfl).mono ?_); rintro e u10 ⟨s10, rfl, U10⟩; replace U10 : Hp w2 (fun _ => False) u10 _ := U10; have cv10 : (convert 30 9 s10).run Try.prog u10 = .ok (.string (Ide.strOf (Y.k.n * 512) Y.k.d)) u10 := (HUK.out.2 ▸ convd_at U10 5 rfl); have cw10 : (convert 30 9 s9).run Try.prog u10 = .ok (.string (Ide.strOf (Y.k.n * 512) Y.k.d)) u10 := convd_at U10 4 rfl; have HU10 := Lib.hid U10; clear U10))
                    all_goals
                      go_wp2_with fail
                      go_ret
                      exact ⟨rfl, step_below HW2.out HU10.out.below (Nat.le_refl _)⟩


      · have hk3 : ¬ ((k : Int) < sl) := by omega
        by_cases h9 : p = 496
        · subst h9
          go_wp2_with fail
          go_ret
          exact ⟨rfl, step_below HW2.out HT.out.below (Nat.le_refl _)⟩
        · have e9 : ((p : Int) == 496) = false := by simp; omega
          have H9 := Lib.hid h9
          clear h9
          cases wd
          · go_wp2_with fail
            refine (HT.out.act 0 rfl (bus_in HG.out.ok p 2 HPV.out.1 (by decide))).mono ?_
            rintro e u1 ⟨rfl, U1⟩
            have HT1 := Lib.hid (show Two w2 u1 b m c m1 (B.inS p 2) B from U1)
            clear U1 HT
            go_wp2_with fail
            go_loopw [21, 22] (fun y i wc => ∃ (j : Nat), j ≤ 2 ∧ i = .int .i64 j ∧ y = .int .u32 (B.insV p j : Nat) ∧ (∀ q, q < j → (B.nar p q).k.inV 0 1 < 256) ∧ B.insV p j < 256 ^ j ∧ Two w2 wc b m c m1 (B.inS p 2) (B.nar p j)) (fun y i _ => 2 - (intOf i).toNat)
            case atStart => exact ⟨0, by omega, rfl, rfl, fun q hq => by omega, Nat.zero_lt_one, HT1.out⟩
            case round =>
              obtain ⟨j, hj, rfl, rfl, hd, hvb, T⟩ := hrel
              have HT2 := Lib.hid T
              have HD := Lib.hid hd
              have HVB := Lib.hid hvb
              clear hd hvb
              by_cases hlt2 : j < 2
              · have hd2 : ∀ q, q ≤ j → (B.nar p q).k.inV 0 1 < 256 := fun q hq => by
                  by_cases e : q = j
                  · subst e; exact T.dk8 1 rfl
                  · exact HD.out q (by omega)
                have hnv := nar_val HPV.out.1 HG.out.same j hd2 (by omega)
                have hn8 : (B.insS p j).inPV ((p + j) % 65536) < 256 := by
                  rw [← hnv, (in_one _ _ (Nat.mod_lt _ (by decide)) (hd2 j (Nat.le_refl j))).1]
                  exact Bs.inP_bd (law_oks T 1 rfl) _
                have hsu : B.insV p (j + 1) = B.insV p j + (B.insS p j).inPV ((p + j) % 65536) * 256 ^ j := rfl
                have hkey : IntKind.u16.wrap ((p : Int) + (j : Int)) = (((p + j) % 65536 : Nat) : Int) := by rw [IntKind.wrap_u16]; omega
                have hw : IntKind.i64.wrap (8 * (j : Int)) = 8 * (j : Int) := IntWalk.i64_in _ (by omega)
                have r2 : (0 : Int) ≤ 8 * (j : Int) := by omega
                have r3 : (8 : Int) * (j : Int) ≤ 32 := by omega
                have r4 : (j : Int) < 2 := by omega
                have HD2 := Lib.hid hd2
                have HNV := Lib.hid hnv
                have HOK := Lib.hid (nar_ok HG.out.ok p j)
                clear hd2 hnv T
                generalize (B.insS p j).inPV ((p + j) % 65536) = nv at *
                have hn0 : (0 : Int) ≤ (nv : Int) := by omega
                have hn1 : (nv : Int) < 256 := by omega
                have hj4 := add_at (B.insV p j) nv j HVB.out hn8 (by omega)
                have HSU := Lib.hid (And.intro hsu hj4)
                clear hsu hn8 hj4
                generalize B.insV p j = V at *
                go_wp2_with fail
                refine (HT2.out.act 1 rfl (bus_in HOK.out ((p + j) % 65536) 1 (Nat.mod_lt _ (by decide)) (.inl rfl))).mono ?_
                rintro e u3 ⟨rfl, U3⟩
                have HU3 := Lib.hid (show Two w2 u3 b m c m1 (B.inS p 2) (B.nar p (j + 1)) from U3)
                clear U3 HT2
                rw [HNV.out]
                go_wp2_with fail
                go_roundw
                case rel =>
                  refine ⟨j + 1, by omega, by go_num, ?_, fun q hq => HD2.out q (by omega), ?_, HU3.out⟩
                  · rw [HSU.out.1]
                    refine congrArg (Value.int .u32) (?_ : _ = _)
                    exact HSU.out.2.1
                  · rw [HSU.out.1]; exact HSU.out.2.2
                case measure => (simp [intOf]) <;> omega
              · obtain rfl : j = 2 := by omega
                have HW8 := Lib.hid (And.intro HD.out HVB.out)
                have hx : B.wideV p 2 = B.insV p 2 := if_neg H9.out
                rw [← hx]
                have HX := Lib.hid hx
                have HX2 := Lib.hid (HX.out ▸ HVB.out : B.wideV p 2 < 256 ^ 2)
                generalize B.wideV p 2 = X at *
                clear T HT1 hx
                go_wp2_with fail
                refine (HT2.out.act 0 rfl (bus_out (Bs.inS_ok HG.out.ok p 2) ((inS_fits HG.out.f p 2).le (by omega)) p 2 v HPV.out.1 (by decide) HPV.out.2)).mono ?_
                rintro e u4 ⟨rfl, U4⟩
                have HU4 := Lib.hid (show Two w2 u4 b m c m1 ((B.inS p 2).out p 2 v) (B.nar p 2) from U4)
                clear U4 HT2
                go_wp2_with fail
                go_loopw [25] (fun i wc => ∃ (j : Nat), j ≤ 2 ∧ i = .int .i64 j ∧ Two w2 wc b m c m1 ((B.inS p 2).out p 2 v) ((B.nar p 2).nout p v j)) (fun i _ => 2 - (intOf i).toNat)
                case atStart => exact ⟨0, by omega, rfl, HU4.out⟩
                case round =>
                  obtain ⟨j, hj, rfl, T⟩ := hrel
                  have HT5 := Lib.hid T
                  clear T
                  by_cases hlt3 : j < 2
                  · have hkey : IntKind.u16.wrap ((p : Int) + (j : Int)) = (((p + j) % 65536 : Nat) : Int) := by rw [IntKind.wrap_u16]; omega
                    have hw : IntKind.i64.wrap (8 * (j : Int)) = 8 * (j : Int) := IntWalk.i64_in _ (by omega)
                    have r2 : (0 : Int) ≤ 8 * (j : Int) := by omega
                    have r3 : (8 : Int) * (j : Int) ≤ 32 := by omega
                    have r4 : (j : Int) < 2 := by omega
                    go_wp2_with fail
                    first | rw [byte_at v j] | rw [Ide.shr_nat v j]
                    refine (HT5.out.act 1 rfl (bus_out (nout_ok (nar_ok HG.out.ok p 2) p v j) ((nout_fits (nar_fits HG.out.f p 2) p v j).le (by omega)) ((p + j) % 65536) 1 (v / 256 ^ j % 256) (Nat.mod_lt _ (by decide)) (.inl rfl) (by have : v / 256 ^ j % 256 < 256 := Nat.mod_lt _ (by decide); omega))).mono ?_
                    rintro e u6 ⟨rfl, U6⟩
                    have HU6 := Lib.hid (show Two w2 u6 b m c m1 ((B.inS p 2).out p 2 v) ((B.nar p 2).nout p v (j + 1)) from U6)
                    clear U6 HT5
                    go_wp2_with fail
                    go_roundw
                    case rel => exact ⟨j + 1, by omega, by go_num, HU6.out⟩
                    case measure => (simp [intOf]) <;> omega
                  · obtain rfl : j = 2 := by omega
                    have hE := sizes_end (v := v) H9.out HW8.out.1
                    generalize (B.inS p 2).out p 2 v = Y at *
                    generalize (B.nar p 2).nout p v 2 = Z at *
                    have HE := Lib.hid hE
                    clear hE HU4
                    go_upto_region 34 with (fail)
                    have T6 := Lib.hid (HT5.out.drew)
                    have hU : Z.u = Y.u := HE.out.u.symm
                    have hK : Z.k = Y.k := HE.out.k.symm
                    have HUK := Lib.hid (And.intro hU hK)
                    clear hU hK HE
                    go_region_with (first
                      | (go_at_call 16; (with_reducible refine (sent_call T6.out 0 rfl).mono ?_); rintro e u7 ⟨s7, rfl, U7⟩; have cv7 : (convert 30 9 s7).run Try.prog u7 = .ok (.string (Uart.strL Y.u.sent)) u7 := conv_at U7 2 rfl; have HU7 := Lib.hid U7; clear U7)
                      | (go_at_call 16; (with_reducible refine (sent_call HU7.out 1 rfl).mono ?_); rintro e u8 ⟨s8, rfl, U8⟩; rw [HUK.out.1] at U8; have cv8 : (convert 30 9 s8).run Try.prog u8 = .ok (.string (Uart.strL Y.u.sent)) u8 := conv_at U8 3 rfl; have cw8 : (convert 30 9 s7).run Try.prog u8 = .ok (.string (Uart.strL Y.u.sent)) u8 := conv_at U8 2 rfl; have HU8 := Lib.hid U8; clear U8)
                      | (go_at_call 17; (with_reducible refine (disk_call HU8.out 0 rfl).mono ?_); rintro e u9 ⟨s9, rfl, U9⟩; have cv9 : (convert 30 9 s9).run Try.prog u9 = .ok (.string (Ide.strOf (Y.k.n * 512) Y.k.d)) u9 := convd_at U9 4 rfl; have HU9 := Lib.hid U9; clear U9)
                      | (go_at_call 17; (with_reducible refine (disk_call HU9.out 1 rfl).mono ?_); rintro e u10 ⟨s10, rfl, U10⟩; replace U10 : Hp w2 (fun _ => False) u10 _ := U10; have cv10 : (convert 30 9 s10).run Try.prog u10 = .ok (.string (Ide.strOf (Y.k.n * 512) Y.k.d)) u10 := (HUK.out.2 ▸ convd_at U10 5 rfl); have cw10 : (convert 30 9 s9).run Try.prog u10 = .ok (.string (Ide.strOf (Y.k.n * 512) Y.k.d)) u10 := convd_at U10 4 rfl; have HU10 := Lib.hid U10; clear U10))
                    all_goals
                      go_wp2_with fail
                      go_ret
                      exact ⟨rfl, step_below HW2.out HU10.out.below (Nat.le_refl _)⟩

          · go_wp2_with fail
            refine (HT.out.act 0 rfl (bus_in HG.out.ok p 4 HPV.out.1 (by decide))).mono ?_
            rintro e u1 ⟨rfl, U1⟩
            have HT1 := Lib.hid (show Two w2 u1 b m c m1 (B.inS p 4) B from U1)
            clear U1 HT
            go_wp2_with fail
            go_loopw [21, 22] (fun y i wc => ∃ (j : Nat), j ≤ 4 ∧ i = .int .i64 j ∧ y = .int .u32 (B.insV p j : Nat) ∧ (∀ q, q < j → (B.nar p q).k.inV 0 1 < 256) ∧ B.insV p j < 256 ^ j ∧ Two w2 wc b m c m1 (B.inS p 4) (B.nar p j)) (fun y i _ => 4 - (intOf i).toNat)
            case atStart => exact ⟨0, by omega, rfl, rfl, fun q hq => by omega, Nat.zero_lt_one, HT1.out⟩
            case round =>
              obtain ⟨j, hj, rfl, rfl, hd, hvb, T⟩ := hrel
              have HT2 := Lib.hid T
              have HD := Lib.hid hd
              have HVB := Lib.hid hvb
              clear hd hvb
              by_cases hlt2 : j < 4
              · have hd2 : ∀ q, q ≤ j → (B.nar p q).k.inV 0 1 < 256 := fun q hq => by
                  by_cases e : q = j
                  · subst e; exact T.dk8 1 rfl
                  · exact HD.out q (by omega)
                have hnv := nar_val HPV.out.1 HG.out.same j hd2 (by omega)
                have hn8 : (B.insS p j).inPV ((p + j) % 65536) < 256 := by
                  rw [← hnv, (in_one _ _ (Nat.mod_lt _ (by decide)) (hd2 j (Nat.le_refl j))).1]
                  exact Bs.inP_bd (law_oks T 1 rfl) _
                have hsu : B.insV p (j + 1) = B.insV p j + (B.insS p j).inPV ((p + j) % 65536) * 256 ^ j := rfl
                have hkey : IntKind.u16.wrap ((p : Int) + (j : Int)) = (((p + j) % 65536 : Nat) : Int) := by rw [IntKind.wrap_u16]; omega
                have hw : IntKind.i64.wrap (8 * (j : Int)) = 8 * (j : Int) := IntWalk.i64_in _ (by omega)
                have r2 : (0 : Int) ≤ 8 * (j : Int) := by omega
                have r3 : (8 : Int) * (j : Int) ≤ 32 := by omega
                have r4 : (j : Int) < 4 := by omega
                have HD2 := Lib.hid hd2
                have HNV := Lib.hid hnv
                have HOK := Lib.hid (nar_ok HG.out.ok p j)
                clear hd2 hnv T
                generalize (B.insS p j).inPV ((p + j) % 65536) = nv at *
                have hn0 : (0 : Int) ≤ (nv : Int) := by omega
                have hn1 : (nv : Int) < 256 := by omega
                have hj4 := add_at (B.insV p j) nv j HVB.out hn8 (by omega)
                have HSU := Lib.hid (And.intro hsu hj4)
                clear hsu hn8 hj4
                generalize B.insV p j = V at *
                go_wp2_with fail
                refine (HT2.out.act 1 rfl (bus_in HOK.out ((p + j) % 65536) 1 (Nat.mod_lt _ (by decide)) (.inl rfl))).mono ?_
                rintro e u3 ⟨rfl, U3⟩
                have HU3 := Lib.hid (show Two w2 u3 b m c m1 (B.inS p 4) (B.nar p (j + 1)) from U3)
                clear U3 HT2
                rw [HNV.out]
                go_wp2_with fail
                go_roundw
                case rel =>
                  refine ⟨j + 1, by omega, by go_num, ?_, fun q hq => HD2.out q (by omega), ?_, HU3.out⟩
                  · rw [HSU.out.1]
                    refine congrArg (Value.int .u32) (?_ : _ = _)
                    exact HSU.out.2.1
                  · rw [HSU.out.1]; exact HSU.out.2.2
                case measure => (simp [intOf]) <;> omega
              · obtain rfl : j = 4 := by omega
                have HW8 := Lib.hid (And.intro HD.out HVB.out)
                have hx : B.wideV p 4 = B.insV p 4 := if_neg H9.out
                rw [← hx]
                have HX := Lib.hid hx
                have HX2 := Lib.hid (HX.out ▸ HVB.out : B.wideV p 4 < 256 ^ 4)
                generalize B.wideV p 4 = X at *
                clear T HT1 hx
                go_wp2_with fail
                refine (HT2.out.act 0 rfl (bus_out (Bs.inS_ok HG.out.ok p 4) ((inS_fits HG.out.f p 4).le (by omega)) p 4 v HPV.out.1 (by decide) HPV.out.2)).mono ?_
                rintro e u4 ⟨rfl, U4⟩
                have HU4 := Lib.hid (show Two w2 u4 b m c m1 ((B.inS p 4).out p 4 v) (B.nar p 4) from U4)
                clear U4 HT2
                go_wp2_with fail
                go_loopw [25] (fun i wc => ∃ (j : Nat), j ≤ 4 ∧ i = .int .i64 j ∧ Two w2 wc b m c m1 ((B.inS p 4).out p 4 v) ((B.nar p 4).nout p v j)) (fun i _ => 4 - (intOf i).toNat)
                case atStart => exact ⟨0, by omega, rfl, HU4.out⟩
                case round =>
                  obtain ⟨j, hj, rfl, T⟩ := hrel
                  have HT5 := Lib.hid T
                  clear T
                  by_cases hlt3 : j < 4
                  · have hkey : IntKind.u16.wrap ((p : Int) + (j : Int)) = (((p + j) % 65536 : Nat) : Int) := by rw [IntKind.wrap_u16]; omega
                    have hw : IntKind.i64.wrap (8 * (j : Int)) = 8 * (j : Int) := IntWalk.i64_in _ (by omega)
                    have r2 : (0 : Int) ≤ 8 * (j : Int) := by omega
                    have r3 : (8 : Int) * (j : Int) ≤ 32 := by omega
                    have r4 : (j : Int) < 4 := by omega
                    go_wp2_with fail
                    first | rw [byte_at v j] | rw [Ide.shr_nat v j]
                    refine (HT5.out.act 1 rfl (bus_out (nout_ok (nar_ok HG.out.ok p 4) p v j) ((nout_fits (nar_fits HG.out.f p 4) p v j).le (by omega)) ((p + j) % 65536) 1 (v / 256 ^ j % 256) (Nat.mod_lt _ (by decide)) (.inl rfl) (by have : v / 256 ^ j % 256 < 256 := Nat.mod_lt _ (by decide); omega))).mono ?_
                    rintro e u6 ⟨rfl, U6⟩
                    have HU6 := Lib.hid (show Two w2 u6 b m c m1 ((B.inS p 4).out p 4 v) ((B.nar p 4).nout p v (j + 1)) from U6)
                    clear U6 HT5
                    go_wp2_with fail
                    go_roundw
                    case rel => exact ⟨j + 1, by omega, by go_num, HU6.out⟩
                    case measure => (simp [intOf]) <;> omega
                  · obtain rfl : j = 4 := by omega
                    have hE := sizes_end (v := v) H9.out HW8.out.1
                    generalize (B.inS p 4).out p 4 v = Y at *
                    generalize (B.nar p 4).nout p v 4 = Z at *
                    have HE := Lib.hid hE
                    clear hE HU4
                    go_upto_region 34 with (fail)
                    have T6 := Lib.hid (HT5.out.drew)
                    have hU : Z.u = Y.u := HE.out.u.symm
                    have hK : Z.k = Y.k := HE.out.k.symm
                    have HUK := Lib.hid (And.intro hU hK)
                    clear hU hK HE
                    go_region_with (first
                      | (go_at_call 16; (with_reducible refine (sent_call T6.out 0 rfl).mono ?_); rintro e u7 ⟨s7, rfl, U7⟩; have cv7 : (convert 30 9 s7).run Try.prog u7 = .ok (.string (Uart.strL Y.u.sent)) u7 := conv_at U7 2 rfl; have HU7 := Lib.hid U7; clear U7)
                      | (go_at_call 16; (with_reducible refine (sent_call HU7.out 1 rfl).mono ?_); rintro e u8 ⟨s8, rfl, U8⟩; rw [HUK.out.1] at U8; have cv8 : (convert 30 9 s8).run Try.prog u8 = .ok (.string (Uart.strL Y.u.sent)) u8 := conv_at U8 3 rfl; have cw8 : (convert 30 9 s7).run Try.prog u8 = .ok (.string (Uart.strL Y.u.sent)) u8 := conv_at U8 2 rfl; have HU8 := Lib.hid U8; clear U8)
                      | (go_at_call 17; (with_reducible refine (disk_call HU8.out 0 rfl).mono ?_); rintro e u9 ⟨s9, rfl, U9⟩; have cv9 : (convert 30 9 s9).run Try.prog u9 = .ok (.string (Ide.strOf (Y.k.n * 512) Y.k.d)) u9 := convd_at U9 4 rfl; have HU9 := Lib.hid U9; clear U9)
                      | (go_at_call 17; (with_reducible refine (disk_call HU9.out 1 rfl).mono ?_); rintro e u10 ⟨s10, rfl, U10⟩; replace U10 : Hp w2 (fun _ => False) u10 _ := U10; have cv10 : (convert 30 9 s10).run Try.prog u10 = .ok (.string (Ide.strOf (Y.k.n * 512) Y.k.d)) u10 := (HUK.out.2 ▸ convd_at U10 5 rfl); have cw10 : (convert 30 9 s9).run Try.prog u10 = .ok (.string (Ide.strOf (Y.k.n * 512) Y.k.d)) u10 := convd_at U10 4 rfl; have HU10 := Lib.hid U10; clear U10))
                    all_goals
                      go_wp2_with fail
                      go_ret
                      exact ⟨rfl, step_below HW2.out HU10.out.below (Nat.le_refl _)⟩

set_option maxRecDepth 100000 in
theorem lifted (os : Os) (started : os.Started) (H : Type) (enc : TypeId × Value → H) :
    ReturnsInHanded {} Try.checked os 4 .any (Rows.busSizesSpec.pre6 enc Try.prog Try.f4 Rows.busSizesRow.domain false) (Rows.busSizesSpec.post enc Try.prog Try.f4 false true false false) := by
  refine returnsInHanded_of_change (C := Try.checked) own started (by kernel_rfl) Try.func4
    (ChangeSpec.witness6 (enc := enc) (C := Try.checked) false ⟨#[], #[.slice none 0 0, .int .u16 0, .bool false, .int .u32 0], []⟩ 8 (by kernel_rfl) (by kernel_rfl) (by kernel_rfl) (by kernel_rfl)) ?_
  intro W base args ds gs before hval0 hW hcnd _
  have hval : ∀ (j : Nat) t v, Try.f4.params[j]? = some t → args[j]? = some v → Value.okWide Try.prog W .any base t v := hval0
  have hW' := hW
  obtain ⟨p, q, hA0, hV, rfl, hfz, hnd⟩ := hW
  have hA : DataW.TrodAll enc Try.prog W 0 (fun _ => true) true Try.f4.params.toList args.toList ds p := hA0
  rw [Try.params4] at hA hval
  obtain ⟨v0, vs0, d0, ds0, p0, q0, hargs, rfl, rfl, h0, r0⟩ := trodAll_cons hA
  obtain ⟨v1, vs1, d1, ds1, p1, q1, rfl, rfl, rfl, h1, r1⟩ := trodAll_cons r0
  obtain ⟨v2, vs2, d2, ds2, p2, q2, rfl, rfl, rfl, h2, r2⟩ := trodAll_cons r1
  obtain ⟨v3, vs3, d3, ds3, p3, q3, rfl, rfl, rfl, h3, r3⟩ := trodAll_cons r2
  obtain ⟨rfl, rfl, rfl⟩ := trodAll_nil r3
  obtain rfl : args = #[v0, v1, v2, v3] := by cases args; simp_all
  clear hA0 hval0
  obtain ⟨a0, n0, c0, ki0, pt0, sz0, x0, rfl, m0, J0⟩ := arg_ops (hval 0 22 v0 rfl rfl) h0
  obtain ⟨a1, rfl, l1, u1⟩ := arg_int Try.underlying32 (hval 1 32 v1 rfl rfl)
  obtain ⟨a2, rfl⟩ := arg_bool Try.underlying4 (hval 2 4 v2 rfl rfl)
  obtain ⟨a3, rfl, l3, u3⟩ := arg_int Try.underlying33 (hval 3 33 v3 rfl rfl)
  exact law_end (by kernel_rfl) hW' rfl (by kernel_rfl) Try.underlying4 rfl rfl (walk W a0 n0 c0 ki0 pt0 sz0 x0 m0 J0 a1 l1 u1 a2 a3 l3 u3)

theorem proved : Rows.BusSizesSaid :=
  OpenClaim.holds_of_wide 4 Try.f4 rfl rfl rfl rfl rfl rfl rfl ⟨rfl, rfl, rfl, rfl, rfl⟩ rfl rfl rfl rfl rfl (by kernel_rfl) Try.func4 (by kernel_rfl)
    (of_decide_eq_true (by kernel_rfl)) (by unfold Func.isWrapper; first | (rw [if_pos (by decide +kernel)]; kernel_rfl) | (rw [if_neg (by decide +kernel)]; exact ⟨rfl, rfl⟩))
    (fun os started H enc _ => lifted os started H enc)
#print axioms proved
end Go.Proofs.Ytojmpdddfnkffaa.busSizes
