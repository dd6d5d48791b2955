/- 'drawloom/drawloomlaw15.BusPlays' answers true for every input. Conditions: none. -/
import Derived.Test.YtojmpdddfnkffaaGreatS0
import Derived.Test.YtojmpdddfnkffaaGreatS17
import Derived.Test.YtojmpdddfnkffaaGreatS18
import Derived.Deep.RegionHeld3
namespace Go.Proofs.YtojmpdddfnkffaaGreat.busPlays
open Go.ChangeShapes Go.WideShapes Go.ChangeAt Go.RowKit
set_option linter.unusedVariables false

set_option maxRecDepth 20000 in
set_option maxHeartbeats 8000000 in
theorem walk_bad (w : World) (da : Option Addr) (dl dc : Nat) (hbad : dl % 512 ≠ 0 ∨ 32768 < dl) (kv : Value) :
    Calls Tryz.prog 3 #[.slice da dl dc, kv] w fun e w' => e = .returned (.bool true) ∧ Below w.heap.size w w' := by
  have HH := Lib.hid hbad
  clear hbad
  go_enter Tryz.func3, Tryz.ntmps3
  go_wp2_with fail
  refine (bus_awake _).mono ?_
  rintro e w1 ⟨rfl, hb1⟩
  have HB1 := Lib.hid hb1
  clear hb1
  go_wp2_with fail
  refine (new_any w1 1 (by decide) (by decide)).mono ?_
  rintro e w2 ⟨pm, S, rfl, M1, N1, hb⟩
  have HB2 := Lib.hid (step_below HB1.out hb (Nat.le_refl _))
  clear M1 N1 hb HB1
  go_wp2_with fail
  refine (new_no pm da dl dc HH.out _).mono ?_
  rintro e w3 ⟨rfl, rfl⟩
  go_wp2_with fail
  refine (rnew_any w2 1 (by decide) (by decide)).mono ?_
  rintro e w4 ⟨r, S2, rfl, M2, N2, hb⟩
  have HB4 := Lib.hid (step_below HB2.out hb (Nat.le_refl _))
  clear M2 N2 hb HB2
  go_wp2_with fail
  refine (rnew_no r da dl dc HH.out _).mono ?_
  rintro e w5 ⟨rfl, rfl⟩
  go_wp2_with fail
  refine (both_no da dl dc HH.out _).mono ?_
  rintro e w6 ⟨rfl, hb⟩
  have HB6 := Lib.hid (step_below HB4.out hb (Nat.le_refl _))
  clear hb HB4
  go_wp2_with fail
  go_ret
  exact ⟨rfl, HB6.out⟩
set_option maxRecDepth 20000 in
set_option maxHeartbeats 16000000 in
theorem walk_good (w : World) (da : Option Addr) (n dc : Nat) (d : Nat → Nat) (HD : Ide.Reads w (.slice da (n * 512) dc) (n * 512) d) (hn : n ≤ 64) (hd : ∀ i, d i < 256) (sa : Option Addr) (sl sc : Nat) (kd : Nat → Int) (pt : Nat → Nat) (sz : Nat → Int) (xv : Nat → Nat) (hsl : sl ≤ 9223372036854775807) (J : OpsIn w sa sl kd pt sz xv) :
    Calls Tryz.prog 3 #[.slice da (n * 512) dc, .slice sa sl sc] w fun e w' => e = .returned (.bool true) ∧ Below w.heap.size w w' := by
  have HDD := Lib.hid (And.intro HD (And.intro hn hd))
  clear HD hd
  go_enter Tryz.func3, Tryz.ntmps3
  go_wp2_with fail
  refine (bus_awake _).mono ?_
  rintro e w1 ⟨rfl, hb1⟩
  have HB1 := Lib.hid hb1
  clear hb1
  go_wp2_with fail
  refine (new_any w1 1 (by decide) (by decide)).mono ?_
  rintro e w2 ⟨pm, S, rfl, M1, N1, hb⟩
  have HT1 := Lib.hid (show Hp w1 (fun _ => False) w2 [oRam pm (RS.new 1)] from (Hp.zero w1).new hb (o := oRam pm (RS.new 1)) M1 N1)
  clear M1 N1 hb
  go_wp2_with fail
  refine (new_call HT1.out 0 rfl (reads_below HDD.out.1 (step_below HB1.out HT1.out.below (Nat.le_refl _))) HDD.out.2.1 HDD.out.2.2).mono ?_
  rintro e w3 ⟨b0, rfl, T3⟩
  have HB3 := Lib.hid (step_below HB1.out T3.below (Nat.le_refl _))
  clear T3 HT1 HB1
  go_wp2_with fail
  refine (rnew_any w3 1 (by decide) (by decide)).mono ?_
  rintro e w4 ⟨r0, S2, rfl, M2, N2, hb⟩
  have HT4 := Lib.hid (show Hp w3 (fun _ => False) w4 [oRef r0 (RS.new 1)] from (Hp.zero w3).new hb (o := oRef r0 (RS.new 1)) M2 N2)
  clear M2 N2 hb
  go_wp2_with fail
  refine (rnew_call HT4.out 0 rfl (reads_below HDD.out.1 (step_below HB3.out HT4.out.below (Nat.le_refl _))) HDD.out.2.1 HDD.out.2.2).mono ?_
  rintro e w2 ⟨b1, rfl, T5⟩
  have HW2 := Lib.hid (step_below HB3.out T5.below (Nat.le_refl _))
  clear T5 HT4 HB3
  go_wp2_with fail
  refine (both_any w2 _ 256 (by decide) (by decide) (reads_below HDD.out.1 HW2.out) HDD.out.2.1 HDD.out.2.2).mono ?_
  rintro e w6 ⟨b, c, m, r, rfl, T6⟩
  have HT6 := Lib.hid T6
  clear T6
  go_wp2_with fail
  go_loopw [17] (fun i wc => ∃ (k : Nat) (B : Bs), k ≤ sl ∧ k ≤ 300 ∧ i = .int .i64 k ∧ Kpt B k ∧ Hp w2 (fun _ => False) wc [oBus b m B, oRBus c r B]) (fun i _ => 300 - (intOf i).toNat)
  case atStart => exact ⟨0, _, by omega, by omega, rfl, Kpt.start n d, HT6.out⟩
  case round =>
    obtain ⟨k, B, hk, hk2, rfl, G, T⟩ := hrel
    have HG := Lib.hid G
    have HT := Lib.hid T
    have HL := Lib.hid (step_below HW2.out T.below (Nat.le_refl _))
    clear G HT6
    by_cases hlt : k < sl ∧ k < 300
    · clear T
      obtain ⟨h1, h2⟩ := hlt
      obtain ⟨kb, ko, rfl, A2⟩ : ∃ b off, sa = some ⟨b, off, none⟩ ∧ OpsAt w b off sl kd pt sz xv := by
        rcases J with h | h
        · omega
        · exact h
      have AT := A2.below HL.out A2.hb
      have c0 := AT.c0 k h1
      have c1 := AT.c1 k h1
      have c2 := AT.c2 k h1
      have c3 := AT.c3 k h1
      have HU := Lib.hid (And.intro (AT.u1 k h1) (AT.u3 k h1))
      have p1 : (0 : Int) ≤ (k : Int) := by omega
      have p2 : (k : Int) < sl := by omega
      have p3 : (k : Int) < 300 := by omega
      have hl := AT.hb
      have HK2 := Lib.hid h2
      clear A2 AT
      generalize kd k = kk at *
      generalize pt k = pp at *
      generalize sz k = ss at *
      generalize xv k = xx at *
      go_upto_region 16 with (fail)
      go_wp2_with fail
      refine (asked_any HG.out.ok (HG.out.f.le (by omega)) HG.out.g (by have := HG.out.t; omega) HT.out kk pp ss xx HU.out.1 HU.out.2).mono ?_
      rintro e w7 ⟨rfl, T7⟩
      have HG2 := Lib.hid (HG.out.ask HK2.out kk pp ss xx)
      clear c0 c1 c2 c3 hl HT
      generalize B.ask kk pp ss xx = B2 at *
      obtain ⟨⟨qp, qt, qu, qi⟩, T8⟩ := (T7.front 1 rfl).pick
      have T9 := Lib.hid (show Hp w2 (fun _ => False) w7 (rbusObs c r qp qt qu qi B2 ++ [oBus b m B2]) from T8.open_)
      obtain ⟨pd, hpd⟩ : ∃ pd, pd = Pic.told0 B2.c B2.d := ⟨_, rfl⟩
      have HPD := Lib.hid hpd
      clear T7 T8 hpd
      obtain ⟨d1, d5⟩ := T9.out.rbc 0 rfl
      go_upto_region 17 with (fail)
      have TA := Lib.hid T9.out.drew
      clear d1 d5
      obtain ⟨d1, d5⟩ := TA.out.rbc 0 rfl
      go_region_held3 (fun w' => w'.cell? ⟨c, 1, none⟩ = some (.pointer (some ⟨qp, 0, none⟩)) ∧ w'.cell? ⟨c, 5, none⟩ = some (.int .u64 (B2.t : Nat))) (first | exact T12.rbc 0 rfl | exact T11.rbc 0 rfl | exact T10.rbc 0 rfl | exact TA.out.rbc 0 rfl)
        (first
          | (go_at_call 11; refine (TA.out.act 6 rfl bus_pending).mono ?_; rintro e u1 ⟨he, T10⟩; (have he2 : e = .returned (.bool pd) := (by rw [HPD.out]; exact he)); subst he2)
          | (go_at_call 12; refine (T10.act 1 rfl rpic_pending).mono ?_; rintro e u2 ⟨he, T11⟩; (have he2 : e = .returned (.bool pd) := (by rw [HPD.out]; exact he)); subst he2)
          | (go_at_call 13; refine (T11.act 6 rfl bus_now).mono ?_; rintro e u3 ⟨rfl, T12⟩))
      have HTZ := Lib.hid ((Hp.toRBus (os := [oBus b m B2]) T12).front 1 rfl)
      clear d1 d5 TA T9 T10 T11 T12
      go_wp2_with fail
      go_roundw
      case rel => exact ⟨k + 1, B2, by omega, by omega, by go_num, HG2.out, HTZ.out⟩
      case measure => (simp [intOf]) <;> omega
    · by_cases hx : k < sl
      · have hk300 : ¬ ((k : Int) < 300) := by omega
        have hk3 : (k : Int) < sl := by omega
        have HTT := Lib.hid T
        clear T HT
        go_wp2_with fail
        refine (HTT.out.act 0 rfl (bus_write 0 7 (by decide) (by decide) 1 (.inl rfl))).mono ?_
        rintro e u1 ⟨rfl, U1⟩
        have HU1 := Lib.hid (show Hp w2 (fun _ => False) u1 [oBus b m (B.over (B.R.write 0 7 1)), oRBus c r B] from U1)
        clear U1 HTT
        go_wp2_with fail
        refine (HU1.out.act 0 rfl (bus_read 1048576 (by decide) 1 (.inl rfl))).mono ?_
        rintro e u2 ⟨rfl, U2⟩
        have HU2 := Lib.hid (show Hp w2 (fun _ => False) u2 [oBus b m (B.over (B.R.write 0 7 1)), oRBus c r B] from U2)
        obtain ⟨pp, pt, pu, pi, ds, U3⟩ := (HU2.out.front 1 rfl).openR
        obtain ⟨c0, c4⟩ := U3.rbm 0 5 rfl rfl
        clear U2 U3 HU1
        have HL := Lib.hid (show B.k.log.length < 17592186044416 from by have := HG.out.f.l; omega)
        rcases last_two HG.out.m with ⟨hv, hc⟩ | ⟨hv, hc⟩
        · rw [hc] at c4
          have hv2 : (B.over (B.R.write 0 7 1)).R.read 1048576 1 = 7 := hv
          rw [hv2]
          clear hv hv2 hc
          go_wp2_with fail
          refine (alike_any HL.out HU2.out).mono ?_
          rintro e u4 ⟨rfl, os, U4⟩
          go_wp2_with fail
          go_ret
          exact ⟨rfl, step_below HW2.out U4.below (Nat.le_refl _)⟩
        · rw [hc] at c4
          have hv2 : (((B.over (B.R.write 0 7 1)).R.read 1048576 1 : Nat) : Int) ≠ 7 := by intro h; exact hv (by exact_mod_cast h)
          generalize (((B.over (B.R.write 0 7 1)).R.read 1048576 1 : Nat) : Int) = vv at *
          clear hv hc
          go_wp2_with fail
          refine (alike_any HL.out HU2.out).mono ?_
          rintro e u4 ⟨rfl, os, U4⟩
          go_wp2_with fail
          go_ret
          exact ⟨rfl, step_below HW2.out U4.below (Nat.le_refl _)⟩
      · have hk3 : ¬ ((k : Int) < sl) := by omega
        have HTT := Lib.hid T
        clear T HT
        go_wp2_with fail
        refine (HTT.out.act 0 rfl (bus_write 0 7 (by decide) (by decide) 1 (.inl rfl))).mono ?_
        rintro e u1 ⟨rfl, U1⟩
        have HU1 := Lib.hid (show Hp w2 (fun _ => False) u1 [oBus b m (B.over (B.R.write 0 7 1)), oRBus c r B] from U1)
        clear U1 HTT
        go_wp2_with fail
        refine (HU1.out.act 0 rfl (bus_read 1048576 (by decide) 1 (.inl rfl))).mono ?_
        rintro e u2 ⟨rfl, U2⟩
        have HU2 := Lib.hid (show Hp w2 (fun _ => False) u2 [oBus b m (B.over (B.R.write 0 7 1)), oRBus c r B] from U2)
        obtain ⟨pp, pt, pu, pi, ds, U3⟩ := (HU2.out.front 1 rfl).openR
        obtain ⟨c0, c4⟩ := U3.rbm 0 5 rfl rfl
        clear U2 U3 HU1
        have HL := Lib.hid (show B.k.log.length < 17592186044416 from by have := HG.out.f.l; omega)
        rcases last_two HG.out.m with ⟨hv, hc⟩ | ⟨hv, hc⟩
        · rw [hc] at c4
          have hv2 : (B.over (B.R.write 0 7 1)).R.read 1048576 1 = 7 := hv
          rw [hv2]
          clear hv hv2 hc
          go_wp2_with fail
          refine (alike_any HL.out HU2.out).mono ?_
          rintro e u4 ⟨rfl, os, U4⟩
          go_wp2_with fail
          go_ret
          exact ⟨rfl, step_below HW2.out U4.below (Nat.le_refl _)⟩
        · rw [hc] at c4
          have hv2 : (((B.over (B.R.write 0 7 1)).R.read 1048576 1 : Nat) : Int) ≠ 7 := by intro h; exact hv (by exact_mod_cast h)
          generalize (((B.over (B.R.write 0 7 1)).R.read 1048576 1 : Nat) : Int) = vv at *
          clear hv hc
          go_wp2_with fail
          refine (alike_any HL.out HU2.out).mono ?_
          rintro e u4 ⟨rfl, os, U4⟩
          go_wp2_with fail
          go_ret
          exact ⟨rfl, step_below HW2.out U4.below (Nat.le_refl _)⟩
theorem walk (w : World) (da : Option Addr) (dl dc : Nat) (d : Nat → Nat) (HD : Ide.Reads w (.slice da dl dc) dl d) (hd : ∀ i, d i < 256) (sa : Option Addr) (sl sc : Nat) (kd : Nat → Int) (pt : Nat → Nat) (sz : Nat → Int) (xv : Nat → Nat) (hsl : sl ≤ 9223372036854775807) (J : OpsIn w sa sl kd pt sz xv) :
    Calls Tryz.prog 3 #[.slice da dl dc, .slice sa sl sc] w fun e w' => e = .returned (.bool true) ∧ Below w.heap.size w w' := by
  by_cases hbad : dl % 512 ≠ 0 ∨ 32768 < dl
  · exact walk_bad w da dl dc hbad _
  · obtain ⟨n, rfl⟩ : ∃ n, dl = n * 512 := ⟨dl / 512, by omega⟩
    exact walk_good w da n dc d HD (by omega) hd sa sl sc kd pt sz xv hsl J

set_option maxRecDepth 100000 in
theorem lifted (os : Os) (started : os.Started) (H : Type) (enc : TypeId × Value → H) :
    ReturnsInHanded {} Tryz.checked os 3 .any (Rows.busPlaysSpec.pre6 enc Tryz.prog Tryz.f3 Rows.busPlaysRow.domain false) (Rows.busPlaysSpec.post enc Tryz.prog Tryz.f3 false true false false) := by
  refine returnsInHanded_of_change (C := Tryz.checked) own started (by kernel_rfl) Tryz.func3
    (ChangeSpec.witness6 (enc := enc) (C := Tryz.checked) false ⟨#[], #[.slice none 0 0, .slice none 0 0], []⟩ 8 (by kernel_rfl) (by kernel_rfl) (by kernel_rfl) (by kernel_rfl)) ?_
  intro W base args ds gs before hval0 hW hcnd _
  have hval : ∀ (j : Nat) t v, Tryz.f3.params[j]? = some t → args[j]? = some v → Value.okWide Tryz.prog W .any base t v := hval0
  have hW' := hW
  obtain ⟨p, q, hA0, hV, rfl, hfz, hnd⟩ := hW
  have hA : DataW.TrodAll enc Tryz.prog W 0 (fun _ => true) true Tryz.f3.params.toList args.toList ds p := hA0
  rw [Tryz.params3] at hA hval
  obtain ⟨v0, vs0, d0, ds0, p0, q0, hargs, rfl, rfl, h0, r0⟩ := trodAll_cons hA
  obtain ⟨v1, vs1, d1, ds1, p1, q1, rfl, rfl, rfl, h1, r1⟩ := trodAll_cons r0
  obtain ⟨rfl, rfl, rfl⟩ := trodAll_nil r1
  obtain rfl : args = #[v0, v1] := by cases args; simp_all
  clear hA0 hval0
  obtain ⟨a0, n0, c0, f0, rfl, R0, b0⟩ := arg_disk (hval 0 22 v0 rfl rfl) h0
  obtain ⟨a1, n1, c1, ki0, pt0, sz0, x0, rfl, m0, J0⟩ := arg_ops (hval 1 23 v1 rfl rfl) h1
  exact law_end (by kernel_rfl) hW' rfl (by kernel_rfl) Tryz.underlying4 rfl rfl (walk W a0 n0 c0 f0 R0 b0 a1 n1 c1 ki0 pt0 sz0 x0 m0 J0)

theorem proved : Rows.BusPlaysSaid :=
  OpenClaim.holds_of_wide 3 Tryz.f3 rfl rfl rfl rfl rfl rfl rfl ⟨rfl, rfl, rfl, rfl, rfl⟩ rfl rfl rfl rfl rfl (by kernel_rfl) Tryz.func3 (by kernel_rfl)
    (of_decide_eq_true (by kernel_rfl)) (by unfold Func.isWrapper; first | (rw [if_pos (by decide +kernel)]; kernel_rfl) | (rw [if_neg (by decide +kernel)]; exact ⟨rfl, rfl⟩))
    (fun os started H enc _ => lifted os started H enc)
#print axioms proved
end Go.Proofs.YtojmpdddfnkffaaGreat.busPlays
