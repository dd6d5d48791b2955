/- 'drawloom/drawloomlaw14.IdeStays' answers true for every input. Conditions: none. -/
import Derived.Test.YtebhnfoehgpilaaFrame
import Derived.Test.YtebhnfoehgpilaaIdeR
import Derived.Deep.CutRange
import Derived.Deep.RegionWith
namespace Go.Proofs.Ytebhnfoehgpilaa.ideStays
open Go.ChangeShapes Go.WideShapes Go.ChangeAt Go.RowKit
set_option linter.unusedVariables false

theorem written_0 {w0 w : World} {b : Nat} {D : Dk} (h : At w0 w b D) (hl : D.log = []) :
    Calls Try.prog 17 #[.pointer (some ⟨b, 0, none⟩)] w fun e w' => ∃ a c, e = .returned (.slice a 0 c) ∧ At w0 w' b D.quit := by
  refine (written_at h).mono ?_
  rintro e w1 ⟨a, c, rfl, A, -⟩
  rw [hl]
  exact ⟨a, c, rfl, A⟩
theorem disk_s {w0 w : World} {b n : Nat} {d : Nat → Nat} {D : Dk} (h : At w0 w b D) (T : Still n d D) :
    Calls Try.prog 15 #[.pointer (some ⟨b, 0, none⟩)] w fun e w' => ∃ v, e = .returned v ∧ (convert 23 9 v).run Try.prog w' = .ok (.string (strOf (n * 512) d)) w' ∧ At w0 w' b D := by
  refine (disk_at h).mono ?_
  rintro e w1 ⟨v, rfl, hr, A, hb⟩
  rw [T.hn, T.hd] at hr
  exact ⟨v, rfl, conv_row hr, A⟩
set_option maxRecDepth 20000 in
set_option maxHeartbeats 40000000 in
theorem walk (s : Int) (s0 : -9223372036854775808 ≤ s) (s1 : s ≤ 9223372036854775807) (w : World) (kd : Option Addr) (kl kc : Nat) (ki rg sz : Nat → Int) (x : Nat → Nat) (ti : Nat → Int) (hkl : kl ≤ 9223372036854775807) (J : OpsIn w kd kl ki rg sz x ti) :
    Calls Try.prog 6 #[.int .i64 s, .slice kd kl kc] w fun e w' => e = .returned (.bool true) ∧ Below w.heap.size w w' := by
  have HS0 := Lib.hid s0
  have HS1 := Lib.hid s1
  have HKL := Lib.hid hkl
  clear s0 s1 hkl
  go_enter Try.func6, Try.ntmps6
  go_wp2_with fail
  refine (awake_any _).mono ?_
  rintro e w1 ⟨rfl, B1⟩
  go_wp2_with fail
  refine (lawdisk_any s HS0.out HS1.out 7 (by decide) w1).mono ?_
  rintro e w2 ⟨v, rfl, D2, B2⟩
  obtain ⟨n, hn⟩ : ∃ n, n = secs s := ⟨_, rfl⟩
  rw [← hn] at D2
  have hn5 : n < 5 := by rw [hn]; exact secs_lt s
  clear hn
  have B02 := Lib.hid (B1.trans (B2.mono B1.size))
  go_wp2_with fail
  refine (new_at (n := n) (reads_row D2) (by omega) (dsk_lt 7)).mono ?_
  rintro e w3 ⟨b, rfl, A3⟩
  have T3 : Still n (dsk 7) (Dk.new n (dsk 7)) := ⟨rfl, rfl, rfl, by show (0 : Nat) ≠ 2; decide⟩
  generalize Dk.new n (dsk 7) = S3 at A3 T3
  have HD := Lib.hid D2
  clear D2
  go_wp2_with fail
  go_loopw [9] (fun i wc => ∃ k : Nat, k ≤ kl ∧ i = .int .i64 k ∧ ∃ S, At w2 wc b S ∧ Still n (dsk 7) S) (fun i _ => kl - (intOf i).toNat)
  case atStart => exact ⟨0, by omega, rfl, S3, A3, T3⟩
  case round =>
    clear A3 T3
    obtain ⟨k, hk, rfl, S, A, T⟩ := hrel
    have hkl := HKL.out
    by_cases hlt : k < kl
    · obtain ⟨kb, ko, rfl, A2⟩ : ∃ b off, kd = some ⟨b, off, none⟩ ∧ OpsAt w b off kl ki rg sz x ti := by
        rcases J with h | h
        · omega
        · exact h
      have AT := A2.below (B02.out.trans (A.below.mono B02.out.size)) A2.hb
      have c0 := AT.c0 k hlt
      have c1 := AT.c1 k hlt
      have c2 := AT.c2 k hlt
      have c3 := AT.c3 k hlt
      have c4 := AT.c4 k hlt
      have u3 := AT.u3 k hlt
      have p1 : (0 : Int) ≤ (k : Int) := by omega
      have p2 : (k : Int) < kl := by omega
      have hl := AT.hb
      have HU := Lib.hid u3
      have HA := Lib.hid A2
      clear A2 AT u3
      generalize ki k = kk at *
      generalize rg k = rr at *
      generalize sz k = ss at *
      generalize x k = xx at *
      generalize ti k = tt at *
      go_upto_region 10 with (fail)
      have AF := AtF.new A (Below.alloc (Below.refl _ _) (Nat.le_refl _) _) (heap_new wr (.cells #[.int .i64 kk, .int .i64 rr, .int .i64 ss, .int .u32 xx, .int .i64 tt] 43))
      generalize hwz : wr.alloc (.cells #[.int .i64 kk, .int .i64 rr, .int .i64 ss, .int .u32 xx, .int .i64 tt] 43) = wz at AF ⊢
      generalize wr.heap.size = g at AF ⊢
      clear A hwz c0 c1 c2 c3 c4 hl
      have hO := AF.obj
      have z0 := cell_at (k := 0) hO
      have z1 := cell_at (k := 1) hO
      have z2 := cell_at (k := 2) hO
      have z3 := cell_at (k := 3) hO
      have zl := heap_lt hO
      simp at z0 z1 z2 z3
      have HLg := Lib.hid (show S.log.length + 4 < 17592186044416 by rw [T.log]; decide)
      have HT := Lib.hid T
      clear hO T
      by_cases h2 : kk = 2
      · have q1 : kk ≤ 2 := by omega
        have q2 : 2 ≤ kk := by omega
        clear h2
        go_wp2_with fail
        refine (in_atF AF rr ss).mono ?_
        rintro e w6 ⟨rfl, AF6⟩
        have hO := AF6.obj
        have z0 := cell_at (k := 0) hO
        have zl := heap_lt hO
        simp at z0
        clear hO
        go_wp2_with fail
        go_roundw
        case rel => exact ⟨k + 1, by omega, by go_num, _, AF6.at, still_inS HT.out rr ss⟩
        case measure => (simp [intOf]) <;> omega
      · by_cases h1 : kk = 1
        · have q1 : kk ≤ 1 := by omega
          have q2 : 1 ≤ kk := by omega
          clear h2 h1
          by_cases h7 : rr = 7
          · have r1 : rr ≤ 7 := by omega
            have r2 : 7 ≤ rr := by omega
            by_cases e1 : (xx : Int) % 256 = 48
            · clear h7
              go_wp2_with fail
              go_roundw
              case rel => exact ⟨k + 1, by omega, by go_num, _, AF.at, HT.out⟩
              case measure => (simp [intOf]) <;> omega
            · by_cases e2 : (xx : Int) % 256 = 49
              · clear h7
                go_wp2_with fail
                go_roundw
                case rel => exact ⟨k + 1, by omega, by go_num, _, AF.at, HT.out⟩
                case measure => (simp [intOf]) <;> omega
              · have HC := Lib.hid (show rr ≠ 7 ∨ (xx % 256 ≠ 48 ∧ xx % 256 ≠ 49) from .inr ⟨by omega, by omega⟩)
                subst h7
                go_wp2_with fail
                case roundEnd => rename_i hx; exfalso; rcases hx with hx | hx <;> simp at hx <;> omega
                refine (out_atF AF 7 ss xx HU.out HLg.out).mono ?_
                rintro e w6 ⟨rfl, AF6⟩
                go_wp2_with fail
                go_roundw
                case rel => exact ⟨k + 1, by omega, by go_num, _, AF6.at, still_out HT.out 7 ss xx HC.out⟩
                case measure => (simp [intOf]) <;> omega
          · have HC := Lib.hid (show rr ≠ 7 ∨ (xx % 256 ≠ 48 ∧ xx % 256 ≠ 49) from .inl h7)
            go_wp2_with fail
            refine (out_atF AF rr ss xx HU.out HLg.out).mono ?_
            rintro e w6 ⟨rfl, AF6⟩
            go_wp2_with fail
            go_roundw
            case rel => exact ⟨k + 1, by omega, by go_num, _, AF6.at, still_out HT.out rr ss xx HC.out⟩
            case measure => (simp [intOf]) <;> omega
        · go_wp2_with fail
          go_roundw
          case rel => exact ⟨k + 1, by omega, by go_num, _, AF.at, HT.out⟩
          case measure => (simp [intOf]) <;> omega
    · have p2 : (kl : Int) ≤ k := by omega
      have HC := Lib.hid (fun w' (h : At w2 w' b S) => conv_row (row_keep HD.out h.below (Nat.le_refl _)))
      have HT := Lib.hid T
      have cv := HC.out wr A
      have cvd := HC.out wr.drew (A.drewN 1)
      clear T hlt
      go_wp2_with fail
      go_region_with (first | (go_at_call 15; refine (disk_s (w := wr.drew) (A.drewN 1) HT.out).mono ?_; rintro e w5 ⟨v5, rfl, cv5, A5⟩; have cw5 := HC.out _ A5) | (go_at_call 17; refine (written_0 A5 HT.out.log).mono ?_; rintro e w6 ⟨a6, c6, rfl, A6⟩))
      all_goals
        have HB := Lib.hid (B02.out.trans (A6.below.mono B02.out.size))
        clear HC HD HT cv cvd cv5 cw5
        go_wp2_with fail
        go_ret
        exact ⟨rfl, HB.out⟩

set_option maxRecDepth 100000 in
theorem lifted (os : Os) (started : os.Started) (H : Type) (enc : TypeId × Value → H) :
    ReturnsInHanded {} Try.checked os 6 .any (Rows.ideStaysSpec.pre6 enc Try.prog Try.f6 Rows.ideStaysRow.domain false) (Rows.ideStaysSpec.post enc Try.prog Try.f6 false true false false) := by
  refine returnsInHanded_of_change (C := Try.checked) own started (by kernel_rfl) Try.func6
    (ChangeSpec.witness6 (enc := enc) (C := Try.checked) false ⟨#[], #[.int .i64 0, .slice none 0 0], []⟩ 8 (by kernel_rfl) (by kernel_rfl) (by kernel_rfl) (by kernel_rfl)) ?_
  intro W base args ds gs before hval0 hW hcnd _
  have hval : ∀ (j : Nat) t v, Try.f6.params[j]? = some t → args[j]? = some v → Value.okWide Try.prog W .any base t v := hval0
  have hW' := hW
  obtain ⟨p, q, hA0, hV, rfl, hfz, hnd⟩ := hW
  have hA : DataW.TrodAll enc Try.prog W 0 (fun _ => true) true Try.f6.params.toList args.toList ds p := hA0
  rw [Try.params6] at hA hval
  obtain ⟨v0, vs0, d0, ds0, p0, q0, hargs, rfl, rfl, h0, r0⟩ := trodAll_cons hA
  obtain ⟨v1, vs1, d1, ds1, p1, q1, rfl, rfl, rfl, h1, r1⟩ := trodAll_cons r0
  obtain ⟨rfl, rfl, rfl⟩ := trodAll_nil r1
  obtain rfl : args = #[v0, v1] := by cases args; simp_all
  clear hA0 hval0
  obtain ⟨a0, rfl, l0, u0⟩ := arg_int Try.underlying3 (hval 0 3 v0 rfl rfl)
  obtain ⟨a2, n2, c2, ki2, rg2, sz2, x2, ti2, rfl, m2, J2⟩ := arg_ops (hval 1 41 v1 rfl rfl) h1
  exact law_end (by kernel_rfl) hW' rfl (by kernel_rfl) Try.underlying4 rfl rfl (walk a0 l0 u0 W a2 n2 c2 ki2 rg2 sz2 x2 ti2 m2 J2)

theorem proved : Rows.IdeStaysSaid :=
  OpenClaim.holds_of_wide 6 Try.f6 rfl rfl rfl rfl rfl rfl rfl ⟨rfl, rfl, rfl, rfl, rfl⟩ rfl rfl rfl rfl rfl (by kernel_rfl) Try.func6 (by kernel_rfl)
    (of_decide_eq_true (by kernel_rfl)) (by unfold Func.isWrapper; first | (rw [if_pos (by decide +kernel)]; kernel_rfl) | (rw [if_neg (by decide +kernel)]; exact ⟨rfl, rfl⟩))
    (fun os started H enc _ => lifted os started H enc)
#print axioms proved
end Go.Proofs.Ytebhnfoehgpilaa.ideStays
