/- 'drawloom/drawloomlaw14.IdeTells' answers true for every input. Conditions: none. -/
import Derived.Test.YtebhnfoehgpilaaFrame
import Derived.Test.YtebhnfoehgpilaaIdeP
import Derived.Deep.CutRange
namespace Go.Proofs.Ytebhnfoehgpilaa.ideTells
open Go.ChangeShapes Go.WideShapes Go.ChangeAt Go.RowKit
set_option linter.unusedVariables false

def foldTo (f : Int) : Int := if f < 0 then -(f + 1) else f
theorem byte_cell {w : World} {B : Nat} {v : Value} {m : Nat} {d : Nat → Nat} (h : w.ownsRow B 5 1 v m (bytesL m d)) (i : Nat) (hi : i < m) :
    ∃ g cap, v = .slice (some ⟨g, 0, none⟩) m cap ∧ w.cell? ⟨g, i, none⟩ = some (.int .u8 (d i : Nat)) ∧ g < w.heap.size := by
  rcases h.2 with ⟨rfl, h0⟩ | ⟨g, cap, cur, rfl, _, hg, h1, h2, h3, h4⟩
  · omega
  · refine ⟨g, cap, rfl, ?_, heap_lt hg⟩
    rw [cell_at hg]
    rw [Nat.mul_one] at h4
    have := congrArg (fun l => l[i]?) h4
    rw [List.getElem?_take, if_pos hi, bytesL_at _ _ _ hi, Array.getElem?_toList] at this
    exact this
theorem byte_len {w : World} {B : Nat} {v : Value} {m : Nat} {d : Nat → Nat} (h : w.ownsRow B 5 1 v m (bytesL m d)) : ∃ a c, v = .slice a m c := by
  rcases h.2 with ⟨rfl, h0⟩ | ⟨g, cap, cur, rfl, _, hg, h1, h2, h3, h4⟩
  · subst h0; exact ⟨_, _, rfl⟩
  · exact ⟨_, _, rfl⟩
theorem tell_60 (n k : Nat) (h : k = 60) : tellBuf n (2 * k) + tellBuf n (2 * k + 1) * 256 = n := by subst h; simp [tellBuf]
theorem tell_49 (n k : Nat) (h : k = 49) : tellBuf n (2 * k) + tellBuf n (2 * k + 1) * 256 = 512 := by subst h; simp [tellBuf]
theorem tell_61 (n k : Nat) (h : k = 61) : tellBuf n (2 * k) + tellBuf n (2 * k + 1) * 256 = 0 := by subst h; simp [tellBuf]
set_option maxRecDepth 20000 in
set_option maxHeartbeats 4000000 in
theorem walk (s : Int) (s0 : -9223372036854775808 ≤ s) (s1 : s ≤ 9223372036854775807) (f : Int) (f0 : -9223372036854775808 ≤ f) (f1 : f ≤ 9223372036854775807) (w : World) :
    Calls Try.prog 4 #[.int .i64 s, .int .i64 f] w fun e w' => e = .returned (.bool true) ∧ Below w.heap.size w w' := by
  have HF0 := Lib.hid f0
  have HF1 := Lib.hid f1
  have HS0 := Lib.hid s0
  have HS1 := Lib.hid s1
  clear f0 f1 s0 s1
  go_enter Try.func4, Try.ntmps4
  go_wp2_with fail
  refine (awake_any _).mono ?_
  rintro e w1 ⟨rfl, B1⟩
  go_wp2_with fail
  refine (lawdisk_any s HS0.out HS1.out 3 (by decide) w1).mono ?_
  rintro e w2 ⟨v, rfl, D2, B2⟩
  obtain ⟨n, hn⟩ : ∃ n, n = secs s := ⟨_, rfl⟩
  rw [← hn] at D2
  have hn5 : n < 5 := by rw [hn]; exact secs_lt s
  clear hn
  have B02 := Lib.hid (B1.trans (B2.mono B1.size))
  go_wp2_with fail
  refine (new_at (n := n) (reads_row D2) (by omega) (dsk_lt 3)).mono ?_
  rintro e w3 ⟨b, rfl, A3⟩
  obtain ⟨va, vc, rfl⟩ := byte_len D2
  have HD := Lib.hid D2
  clear D2
  obtain ⟨m, hm⟩ : ∃ m, m = n * 512 := ⟨_, rfl⟩
  rw [← hm] at HD ⊢
  have HM := Lib.hid hm
  have q1 : (m : Int) / 512 = n := by omega
  have q2 : (m : Int) ≤ 2048 := by omega
  clear hm
  go_wp2_with fail
  refine (out_at A3 7 1 236 (by decide) (by show 0 + 4 < _; decide)).mono ?_
  rintro e w4 ⟨rfl, A4⟩
  have T4 := telling_start n (dsk 3)
  generalize (Dk.new n (dsk 3)).out 7 1 236 = S4 at A4 T4
  clear A3
  go_wp2_with fail
  go_loopw [10] (fun i wc => ∃ k : Nat, k ≤ 256 ∧ i = .int .i64 k ∧ ∃ S, At w2 wc b S ∧ Telling n (dsk 3) (2 * k) S) (fun i _ => 256 - (intOf i).toNat)
  case atStart => exact ⟨0, by omega, rfl, S4, A4, T4⟩
  case round =>
    clear A4 T4
    obtain ⟨k, hk, rfl, S, A, T⟩ := hrel
    by_cases hlt : k < 256
    · obtain ⟨hv, ht⟩ := telling_in T hlt
      have p1 : (0 : Int) ≤ (k : Int) := by omega
      have p2 : (k : Int) < 256 := by omega
      go_wp2_with fail
      refine (in_at A 0 2).mono ?_
      rintro e w5 ⟨rfl, A5⟩
      have HV := Lib.hid hv
      have HT := Lib.hid ht
      generalize S.inV 0 2 = x at *
      generalize S.inS 0 2 = S5 at *
      clear hv ht A T
      rcases (show k = 60 ∨ k = 49 ∨ k = 61 ∨ (k ≠ 60 ∧ k ≠ 49 ∧ k ≠ 61) by omega) with h | h | h | ⟨h1, h2, h3⟩
      · have x1 : (x : Int) ≤ n := by have e : x = n := HV.out.trans (tell_60 n k h); omega
        have x2 : (n : Int) ≤ x := by have e : x = n := HV.out.trans (tell_60 n k h); omega
        have y1 : (k : Int) ≤ 60 := by omega
        have y2 : (60 : Int) ≤ k := by omega
        clear h
        go_wp2_with fail
        go_roundw
        case rel => exact ⟨k + 1, by omega, by go_num, S5, A5, HT.out⟩
        case measure => (simp [intOf]) <;> omega
      · have x1 : (x : Int) ≤ 512 := by have e : x = 512 := HV.out.trans (tell_49 n k h); omega
        have x2 : (512 : Int) ≤ x := by have e : x = 512 := HV.out.trans (tell_49 n k h); omega
        have y1 : (k : Int) ≤ 49 := by omega
        have y2 : (49 : Int) ≤ k := by omega
        clear h
        go_wp2_with fail
        go_roundw
        case rel => exact ⟨k + 1, by omega, by go_num, S5, A5, HT.out⟩
        case measure => (simp [intOf]) <;> omega
      · have x1 : (x : Int) ≤ 0 := by have e : x = 0 := HV.out.trans (tell_61 n k h); omega
        have x2 : (0 : Int) ≤ x := by omega
        have y1 : (k : Int) ≤ 61 := by omega
        have y2 : (61 : Int) ≤ k := by omega
        clear h
        go_wp2_with fail
        go_roundw
        case rel => exact ⟨k + 1, by omega, by go_num, S5, A5, HT.out⟩
        case measure => (simp [intOf]) <;> omega
      · have y1 : (k : Int) ≠ 60 := by omega
        have y2 : (k : Int) ≠ 49 := by omega
        have y3 : (k : Int) ≠ 61 := by omega
        clear h1 h2 h3
        go_wp2_with fail
        go_roundw
        case rel => exact ⟨k + 1, by omega, by go_num, S5, A5, HT.out⟩
        case measure => (simp [intOf]) <;> omega
    · have hk2 : k = 256 := by omega
      have HL2 := Lib.hid (show S.log.length + 4 < 17592186044416 by rw [T.log]; decide)
      have hSn := T.hn
      have hSd := T.hd
      have HL := Lib.hid T.log
      have p2 : (256 : Int) ≤ (k : Int) := by omega
      clear hk2 T
      go_wp2_with fail
      refine (sector_any A 32 (by decide) _ n (by omega) HL2.out).mono ?_
      rintro e w5 ⟨rfl, A5⟩
      clear A HL2
      go_wp2_with fail
      obtain ⟨s1', s2', s3', s4', s5', s6'⟩ := sect_none S n (by omega) (by omega)
      refine (in_at A5 7 1).mono ?_
      rintro e w6 ⟨rfl, A6⟩
      rw [s1']
      go_wp2_with fail
      refine (in_at A6 1 1).mono ?_
      rintro e w7 ⟨rfl, A7⟩
      rw [s2']
      generalize (((S.sect 32 n).inS 7 1).inS 1 1) = S7 at *
      clear A5 A6 s1' s2'
      by_cases hn0 : n = 0
      · have z1 : (n : Int) ≤ 0 := by omega
        have HB := Lib.hid (B02.out.trans (A7.below.mono (B02.out.size)))
        clear hn0
        go_wp2_with fail
        go_ret
        exact ⟨rfl, HB.out⟩
      · have z1 : (0 : Int) < n := by omega
        clear hn0
        have f0 := HF0.out
        have f1 := HF1.out
        have fin : ∀ t : Int, 0 ≤ t → ∃ r : Nat, t % (n : Int) = r ∧ r < n := fun t ht => by
          have a1 := Int.emod_nonneg t (show (n : Int) ≠ 0 by omega)
          have a2 := Int.emod_lt_of_pos t z1
          exact ⟨(t % (n : Int)).toNat, by omega, by omega⟩
        have HSn := Lib.hid (s4'.trans hSn)
        have HSd := Lib.hid (s5'.trans hSd)
        have HSl := Lib.hid (s6'.trans HL.out)
        have HLi := Lib.hid s3'
        clear hSn hSd s4' s5' s6' s3' HL
        by_cases hneg : f < 0
        · have q : 0 ≤ -(f + 1) := by omega
          obtain ⟨r, hr, hrn⟩ := fin _ q
          have hr2 : -(f + 1).tmod (n : Int) = r := by rw [← Int.neg_tmod, Int.tmod_eq_emod_of_nonneg q, hr]
          have HR := Lib.hid hr2
          have HRN := Lib.hid hrn
          clear hr hr2 fin hrn
          go_wp2_with fail
          rw [HR.out]
          clear HR q hneg f0 f1 HF0 HF1
          have hrn := HRN.out
          have g1 : (0 : Int) ≤ r := by omega
          have g2 : (r : Int) < n := by omega
          have g3 : (r : Int) * 512 ≤ 2048 := by omega
          rw [show ((r : Int) % 4294967296) = (r : Nat) by omega]
          refine (out_at A7 3 1 r (by omega) (by rw [HSl.out]; decide)).mono ?_
          rintro e w8 ⟨rfl, A8⟩
          go_wp2_with fail
          rw [show ((n : Int) - (r : Int)) = ((n - r : Nat) : Int) by omega]
          refine (out_at A8 2 1 (n - r) (by omega) (aw_l _ (by rw [HSl.out]; decide) 3 1 r (by decide))).mono ?_
          rintro e w9 ⟨rfl, A9⟩
          go_wp2_with fail
          refine (out_at A9 7 1 32 (by decide) (aw_l _ (aw_l _ (by rw [HSl.out]; decide) 3 1 r (by decide)) 2 1 (n - r) (by decide))).mono ?_
          rintro e w10 ⟨rfl, A10⟩
          have RD := then_read HLi.out r (n - r) (by rw [HSn.out]; exact hrn) (by omega) (by rw [HSn.out]; omega) (by rw [HSn.out]; omega)
          rw [HSn.out, HSd.out, HSl.out, show (r + (n - r)) * 512 = m by have := HM.out; omega] at RD
          generalize ((S7.out 3 1 r).out 2 1 (n - r)).out 7 1 32 = S10 at A10 RD
          clear A7 A8 A9 HLi HSn HSd HSl
          go_wp2_with fail
          go_loopw [17] (fun i wc => ∃ k : Nat, k ≤ m ∧ i = .int .i64 k ∧ ∃ S, At w2 wc b S ∧ Reading n (dsk 3) m k [] S) (fun i _ => m - (intOf i).toNat)
          case atStart => exact ⟨r * 512, by have := HM.out; omega, by go_num, S10, A10, RD⟩
          case round =>
            clear A10 RD
            obtain ⟨k, hk, rfl, S, A, R⟩ := hrel
            by_cases hlt : k < m
            · obtain ⟨hv, ht⟩ := reading_in R hlt (by have := HM.out; omega) (by omega) (by have := HM.out; omega)
              obtain ⟨g, cap, hva, hc, hg⟩ := byte_cell HD.out k hlt
              obtain ⟨rfl⟩ : va = some ⟨g, 0, none⟩ := by injection hva
              have p1 : (0 : Int) ≤ (k : Int) := by omega
              have p2 : (k : Int) < m := by omega
              have HT := Lib.hid ht
              have HC := Lib.hid hc
              clear ht R hva hc
              go_wp2_with fail
              refine (in_at A 0 1).mono ?_
              rintro e w11 ⟨rfl, A11⟩
              rw [hv]
              have hc := (A11.below.cell (p := ⟨g, k, none⟩) hg).trans HC.out
              have hg2 : g < w11.heap.size := Nat.lt_of_lt_of_le hg A11.below.size
              have hb8 : ((dsk 3 k : Nat) : Int) < 256 := by have := dsk_lt 3 k; omega
              have hb0 : (0 : Int) ≤ ((dsk 3 k : Nat) : Int) := by omega
              generalize dsk 3 k = x at *
              generalize S.inS 0 1 = S11 at *
              clear hv A HC
              go_wp2_with fail
              go_roundw
              case rel => exact ⟨k + 1, by omega, by go_num, S11, A11, HT.out⟩
              case measure => (simp [intOf]) <;> omega
            · have hk2 : k = m := by omega
              have HK := Lib.hid hk2
              have p2 : (m : Int) ≤ k := by omega
              clear hk2
              rw [HK.out] at R
              obtain ⟨r1, r2⟩ := reading_end R
              clear R
              go_wp2_with fail
              refine (in_at A 7 1).mono ?_
              rintro e w11 ⟨rfl, A11⟩
              rw [r1]
              go_wp2_with fail
              refine (in_at A11 0 1).mono ?_
              rintro e w12 ⟨rfl, A12⟩
              rw [r2]
              have HB := Lib.hid (B02.out.trans (A12.below.mono B02.out.size))
              go_wp2_with fail
              go_ret
              exact ⟨rfl, HB.out⟩
        · obtain ⟨r, hr, hrn⟩ := fin f (by omega)
          have HR := Lib.hid hr
          have HRN := Lib.hid hrn
          clear hr fin hrn
          go_wp2_with fail
          rw [HR.out]
          clear HR hneg f0 f1 HF0 HF1
          have hrn := HRN.out
          have g1 : (0 : Int) ≤ r := by omega
          have g2 : (r : Int) < n := by omega
          have g3 : (r : Int) * 512 ≤ 2048 := by omega
          rw [show ((r : Int) % 4294967296) = (r : Nat) by omega]
          refine (out_at A7 3 1 r (by omega) (by rw [HSl.out]; decide)).mono ?_
          rintro e w8 ⟨rfl, A8⟩
          go_wp2_with fail
          rw [show ((n : Int) - (r : Int)) = ((n - r : Nat) : Int) by omega]
          refine (out_at A8 2 1 (n - r) (by omega) (aw_l _ (by rw [HSl.out]; decide) 3 1 r (by decide))).mono ?_
          rintro e w9 ⟨rfl, A9⟩
          go_wp2_with fail
          refine (out_at A9 7 1 32 (by decide) (aw_l _ (aw_l _ (by rw [HSl.out]; decide) 3 1 r (by decide)) 2 1 (n - r) (by decide))).mono ?_
          rintro e w10 ⟨rfl, A10⟩
          have RD := then_read HLi.out r (n - r) (by rw [HSn.out]; exact hrn) (by omega) (by rw [HSn.out]; omega) (by rw [HSn.out]; omega)
          rw [HSn.out, HSd.out, HSl.out, show (r + (n - r)) * 512 = m by have := HM.out; omega] at RD
          generalize ((S7.out 3 1 r).out 2 1 (n - r)).out 7 1 32 = S10 at A10 RD
          clear A7 A8 A9 HLi HSn HSd HSl
          go_wp2_with fail
          go_loopw [17] (fun i wc => ∃ k : Nat, k ≤ m ∧ i = .int .i64 k ∧ ∃ S, At w2 wc b S ∧ Reading n (dsk 3) m k [] S) (fun i _ => m - (intOf i).toNat)
          case atStart => exact ⟨r * 512, by have := HM.out; omega, by go_num, S10, A10, RD⟩
          case round =>
            clear A10 RD
            obtain ⟨k, hk, rfl, S, A, R⟩ := hrel
            by_cases hlt : k < m
            · obtain ⟨hv, ht⟩ := reading_in R hlt (by have := HM.out; omega) (by omega) (by have := HM.out; omega)
              obtain ⟨g, cap, hva, hc, hg⟩ := byte_cell HD.out k hlt
              obtain ⟨rfl⟩ : va = some ⟨g, 0, none⟩ := by injection hva
              have p1 : (0 : Int) ≤ (k : Int) := by omega
              have p2 : (k : Int) < m := by omega
              have HT := Lib.hid ht
              have HC := Lib.hid hc
              clear ht R hva hc
              go_wp2_with fail
              refine (in_at A 0 1).mono ?_
              rintro e w11 ⟨rfl, A11⟩
              rw [hv]
              have hc := (A11.below.cell (p := ⟨g, k, none⟩) hg).trans HC.out
              have hg2 : g < w11.heap.size := Nat.lt_of_lt_of_le hg A11.below.size
              have hb8 : ((dsk 3 k : Nat) : Int) < 256 := by have := dsk_lt 3 k; omega
              have hb0 : (0 : Int) ≤ ((dsk 3 k : Nat) : Int) := by omega
              generalize dsk 3 k = x at *
              generalize S.inS 0 1 = S11 at *
              clear hv A HC
              go_wp2_with fail
              go_roundw
              case rel => exact ⟨k + 1, by omega, by go_num, S11, A11, HT.out⟩
              case measure => (simp [intOf]) <;> omega
            · have hk2 : k = m := by omega
              have HK := Lib.hid hk2
              have p2 : (m : Int) ≤ k := by omega
              clear hk2
              rw [HK.out] at R
              obtain ⟨r1, r2⟩ := reading_end R
              clear R
              go_wp2_with fail
              refine (in_at A 7 1).mono ?_
              rintro e w11 ⟨rfl, A11⟩
              rw [r1]
              go_wp2_with fail
              refine (in_at A11 0 1).mono ?_
              rintro e w12 ⟨rfl, A12⟩
              rw [r2]
              have HB := Lib.hid (B02.out.trans (A12.below.mono B02.out.size))
              go_wp2_with fail
              go_ret
              exact ⟨rfl, HB.out⟩

set_option maxRecDepth 100000 in
theorem lifted (os : Os) (started : os.Started) (H : Type) (enc : TypeId × Value → H) :
    ReturnsInHanded {} Try.checked os 4 .any (Rows.ideTellsSpec.pre6 enc Try.prog Try.f4 Rows.ideTellsRow.domain false) (Rows.ideTellsSpec.post enc Try.prog Try.f4 false true false false) := by
  refine returnsInHanded_of_change (C := Try.checked) own started (by kernel_rfl) Try.func4
    (ChangeSpec.witness6 (enc := enc) (C := Try.checked) false ⟨#[], #[.int .i64 0, .int .i64 0], []⟩ 8 (by kernel_rfl) (by kernel_rfl) (by kernel_rfl) (by kernel_rfl)) ?_
  intro W base args ds gs before hval0 hW hcnd _
  have hval : ∀ (j : Nat) t v, Try.f4.params[j]? = some t → args[j]? = some v → Value.okWide Try.prog W .any base t v := hval0
  have hW' := hW
  obtain ⟨p, q, hA0, hV, rfl, hfz, hnd⟩ := hW
  have hA : DataW.TrodAll enc Try.prog W 0 (fun _ => true) true Try.f4.params.toList args.toList ds p := hA0
  rw [Try.params4] at hA hval
  obtain ⟨v0, vs0, d0, ds0, p0, q0, hargs, rfl, rfl, h0, r0⟩ := trodAll_cons hA
  obtain ⟨v1, vs1, d1, ds1, p1, q1, rfl, rfl, rfl, h1, r1⟩ := trodAll_cons r0
  obtain ⟨rfl, rfl, rfl⟩ := trodAll_nil r1
  obtain rfl : args = #[v0, v1] := by cases args; simp_all
  clear hA0 hval0
  obtain ⟨a0, rfl, l0, u0⟩ := arg_int Try.underlying3 (hval 0 3 v0 rfl rfl)
  obtain ⟨a1, rfl, l1, u1⟩ := arg_int Try.underlying3 (hval 1 3 v1 rfl rfl)
  exact law_end (by kernel_rfl) hW' rfl (by kernel_rfl) Try.underlying4 rfl rfl (walk a0 l0 u0 a1 l1 u1 W)

theorem proved : Rows.IdeTellsSaid :=
  OpenClaim.holds_of_wide 4 Try.f4 rfl rfl rfl rfl rfl rfl rfl ⟨rfl, rfl, rfl, rfl, rfl⟩ rfl rfl rfl rfl rfl (by kernel_rfl) Try.func4 (by kernel_rfl)
    (of_decide_eq_true (by kernel_rfl)) (by unfold Func.isWrapper; first | (rw [if_pos (by decide +kernel)]; kernel_rfl) | (rw [if_neg (by decide +kernel)]; exact ⟨rfl, rfl⟩))
    (fun os started H enc _ => lifted os started H enc)
#print axioms proved
end Go.Proofs.Ytebhnfoehgpilaa.ideTells
