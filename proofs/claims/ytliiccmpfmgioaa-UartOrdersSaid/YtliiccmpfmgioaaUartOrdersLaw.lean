/- 'drawloom/drawloomlaw13.UartOrders' answers true for every input. Conditions: none. -/
import Derived.Test.YtliiccmpfmgioaaFrame
import Derived.Test.YtliiccmpfmgioaaUartH
import Derived.Deep.RegionWith
import Derived.Deep.CutRange
namespace Go.Proofs.Ytliiccmpfmgioaa.uartOrders
open Go.ChangeShapes Go.WideShapes Go.ChangeAt Go.RowKit
set_option linter.unusedVariables false

/-- A length within the reach. -/
structure Upto (n : Nat) : Prop where
  out : n ≤ 140737488351232
theorem uat_drewN {w0 w wG : World} {b : Nat} {U : Ut} {G : Nat → Prop} (h : UAt w0 w b U G wG) (n : Nat) : UAt w0 (w.drewN n) b U G wG := h.move ⟨rfl, rfl, rfl, Nat.le_refl _, fun _ _ => rfl⟩
theorem bytes_below {w w1 : World} {a : Option Addr} {len : Nat} {f : Nat → Nat} (h : BytesIn w a len f) (hb : Below w.heap.size w w1) : BytesIn w1 a len f := by
  refine h.imp id ?_
  rintro ⟨b, off, rfl, hl, hc⟩
  exact ⟨b, off, rfl, Nat.lt_of_lt_of_le hl hb.size, fun i hi => (hb.cell hl).trans (hc i hi)⟩
/-- The port behind k bytes. -/
def Rel1 (w1 : World) (b : Nat) (f : Nat → Nat) (room : Nat) (on : Bool) (k : Nat) (wc : World) : Prop := ∃ U wG, UAt w1 wc b U (fun _ => False) wG ∧ Pushed f room on k U
def Rel2 (w1 : World) (b : Nat) (f : Nat → Nat) (room n i : Nat) (wc : World) : Prop := ∃ U wG, UAt w1 wc b U (fun _ => False) wG ∧ Taken f room n i U
set_option maxRecDepth 20000 in
set_option maxHeartbeats 8000000 in
theorem walk (w : World) (ba : Option Addr) (n c : Nat) (z : Nat → Int) (hn : n ≤ 9223372036854775807) (J : IntsIn .u8 w ba n z) (hr : n ≤ 140737488351232) (on : Bool) :
    Calls Try.prog 6 #[.slice ba n c, .bool on] w fun e w' => e = .returned (.bool true) ∧ Below w.heap.size w w' := by
  obtain ⟨f, hf⟩ : ∃ f, f = byteF z n := ⟨_, rfl⟩
  have HJ := Lib.hid (bytes_in J)
  have HF := Lib.hid (byteF_lt J)
  rw [← hf] at HJ HF
  have HN : Upto n := ⟨hr⟩
  clear hf J hr
  obtain ⟨room, hroom⟩ : ∃ room, room = if on then 16 else 1 := ⟨_, rfl⟩
  have HRM := Lib.hid hroom
  have r16 : (room : Int) ≤ 16 := by cases on <;> simp at hroom <;> omega
  have r0 : (1 : Int) ≤ (room : Int) := by cases on <;> simp at hroom <;> omega
  have r16' : room ≤ 16 := by omega
  clear hroom
  go_enter Try.func6, Try.ntmps6
  go_wp2_with fail
  refine (awake_any _).mono ?_
  rintro e w1 ⟨rfl, B1⟩
  have HB1 := Lib.hid B1
  clear B1
  go_wp2_with fail
  refine (new_at w1).mono ?_
  rintro e w2 ⟨b, rfl, A⟩
  go_upto_if 23 with (fail)
  go_cut [7] from 23 (fun y wc => y = .int .i64 (room : Nat) ∧ ∃ U wG, UAt w1 wc b U (fun _ => False) wG ∧ U.sent = [] ∧ Pushed f room on 0 (U.out 1 1))
  case first =>
    cases on
    · have h1 := Lib.hid (pushed_start f).1
      have hrm := HRM.out
      simp at hrm
      subst hrm
      go_wp2_with fail
      go_meet
      exact ⟨rfl, _, _, A, rfl, h1.out⟩
    · have h1 := Lib.hid (pushed_start f).2
      have hrm := HRM.out
      simp at hrm
      subst hrm
      go_wp2_with fail
      refine (out_at A 2 1 (by decide) (by decide)).mono ?_
      rintro e w3 ⟨rfl, A3⟩
      go_wp2_with fail
      go_meet
      exact ⟨rfl, _, _, A3, by kernel_rfl, h1.out⟩
  case rest =>
    obtain ⟨rfl, U, wG, A1, hs, hp⟩ := hcut
    have HP := Lib.hid hp
    have HSL := Lib.hid (show U.sent.length + 1 ≤ 140737488355328 by rw [hs]; decide)
    clear A hp hs
    go_wp2_with fail
    refine (out_at A1 1 1 (by decide) HSL.out).mono ?_
    rintro e w3 ⟨rfl, A3⟩
    have R0 : Rel1 w1 b f room on 0 w3 := ⟨_, _, A3, HP.out⟩
    clear A1 A3 HP HSL
    go_wp2_with fail
    go_loopw [8] (fun i wc => ∃ k : Nat, k ≤ n ∧ i = .int .i64 k ∧ Rel1 w1 b f room on k wc) (fun i _ => n - (intOf i).toNat)
    case atStart => exact ⟨0, by omega, rfl, R0⟩
    case round =>
      clear R0
      obtain ⟨k, hk, rfl, U, wG, A, P⟩ := hrel
      have hnn := HN.out
      by_cases hlt : k < n
      · have p1 : (0 : Int) ≤ (k : Int) := by omega
        have p2 : (k : Int) < n := by omega
        obtain ⟨bb, off, rfl, hbb, hbc⟩ : ∃ b off, ba = some ⟨b, off, none⟩ ∧ b < w.heap.size ∧ ∀ i, i < n → w.cell? ⟨b, off + i, none⟩ = some (.int .u8 (f i : Nat)) := by
          rcases HJ.out with h | h
          · omega
          · exact h
        have hcell := Lib.hid (hbc k hlt)
        have hc0 := ((HB1.out.trans (A.below.mono HB1.out.size)).cell (p := ⟨bb, off + k, none⟩) hbb).trans hcell.out
        have hl0 : bb < wr.heap.size := Nat.lt_of_lt_of_le hbb (HB1.out.trans (A.below.mono HB1.out.size)).size
        have HBB := Lib.hid hbb
        have HPN := Lib.hid (pushed_next HRM.out P)
        have HSL := Lib.hid (show (U.push (f k)).sent.length + 1 ≤ 140737488355328 by
          have e : (U.push (f k)).sent = U.sent := by unfold Ut.push; (repeat' split) <;> rfl
          rw [e, P.sent, fst_len]; omega)
        clear hbc P hbb
        go_wp2_with fail
        refine (push_at A (f k) (HF.out k)).mono ?_
        rintro e w5 ⟨rfl, A5⟩
        have hc1 := ((HB1.out.trans (A5.below.mono HB1.out.size)).cell (p := ⟨bb, off + k, none⟩) HBB.out).trans hcell.out
        have hl1 : bb < w5.heap.size := Nat.lt_of_lt_of_le HBB.out (HB1.out.trans (A5.below.mono HB1.out.size)).size
        clear A hc0 hl0
        go_wp2_with fail
        refine (out_at A5 0 (f k) (HF.out k) HSL.out).mono ?_
        rintro e w6 ⟨rfl, A6⟩
        clear A5 hc1
        go_wp2_with fail
        go_roundw
        case rel => exact ⟨k + 1, by omega, by go_num, _, _, A6, HPN.out⟩
        case measure => (simp [intOf]) <;> omega
      · have hk2 : k = n := by omega
        have p2 : (n : Int) ≤ k := by omega
        have R1 : Rel2 w1 b f room n 0 wr := ⟨_, _, A, by rw [hk2] at P; exact P.taken⟩
        clear A P hk2
        go_wp2_with fail
        go_loopw [9] (fun i wc => ∃ k : Nat, k ≤ n ∧ k ≤ room ∧ i = .int .i64 k ∧ Rel2 w1 b f room n k wc) (fun i _ => n - (intOf i).toNat)
        case atStart => exact ⟨0, by omega, by omega, rfl, R1⟩
        case round =>
          clear R1
          obtain ⟨i, hi1, hi2, rfl, U, wG, A, T⟩ := hrel
          by_cases hin : i < n ∧ i < room
          · obtain ⟨hin, hir⟩ := hin
            have q1 : (0 : Int) ≤ (i : Int) := by omega
            have q2 : (i : Int) < n := by omega
            have q3 : (i : Int) < room := by omega
            obtain ⟨hv, ht, hline⟩ := taken_next T hin hir
            obtain ⟨bb, off, rfl, hbb, hbc⟩ : ∃ b off, ba = some ⟨b, off, none⟩ ∧ b < w.heap.size ∧ ∀ i, i < n → w.cell? ⟨b, off + i, none⟩ = some (.int .u8 (f i : Nat)) := by
              rcases HJ.out with h | h
              · omega
              · exact h
            have hcell := Lib.hid (hbc i hin)
            have HBB := Lib.hid hbb
            have HV := Lib.hid hv
            have HT := Lib.hid ht
            have HL := Lib.hid hline
            clear hbc hbb T hv ht hline
            go_wp2_with fail
            refine (in_at A 0).mono ?_
            rintro e w5 ⟨rfl, A5⟩
            rw [HV.out]
            have hc1 := ((HB1.out.trans (A5.below.mono HB1.out.size)).cell (p := ⟨bb, off + i, none⟩) HBB.out).trans hcell.out
            have hl1 : bb < w5.heap.size := Nat.lt_of_lt_of_le HBB.out (HB1.out.trans (A5.below.mono HB1.out.size)).size
            clear A
            by_cases e1 : i + 1 < n
            · by_cases e2 : i + 1 < room
              · have g1 : (i : Int) + 1 < n := by omega
                have g2 : (i : Int) + 1 < room := by omega
                have HL2 := Lib.hid (HL.out.trans (by rw [decide_eq_true e1, decide_eq_true e2]; rfl : _ = true))
                go_wp2_with fail
                refine (line_at A5).mono ?_
                rintro e w6 ⟨rfl, rfl⟩
                rw [HL2.out]
                go_wp2_with fail
                go_roundw
                case rel => exact ⟨i + 1, by omega, by omega, by go_num, _, _, A5, HT.out⟩
                case measure => (simp [intOf]) <;> omega
              · have g1 : (i : Int) + 1 < n := by omega
                have g2 : (room : Int) ≤ (i : Int) + 1 := by omega
                have HL2 := Lib.hid (HL.out.trans (by rw [decide_eq_true e1, decide_eq_false e2]; rfl : _ = false))
                go_wp2_with fail
                refine (line_at A5).mono ?_
                rintro e w6 ⟨rfl, rfl⟩
                rw [HL2.out]
                go_wp2_with fail
                go_roundw
                case rel => exact ⟨i + 1, by omega, by omega, by go_num, _, _, A5, HT.out⟩
                case measure => (simp [intOf]) <;> omega
            · have g1 : (n : Int) ≤ (i : Int) + 1 := by omega
              have HL2 := Lib.hid (HL.out.trans (by rw [decide_eq_false e1]; rfl : _ = false))
              go_wp2_with fail
              refine (line_at A5).mono ?_
              rintro e w6 ⟨rfl, rfl⟩
              rw [HL2.out]
              go_wp2_with fail
              go_roundw
              case rel => exact ⟨i + 1, by omega, by omega, by go_num, _, _, A5, HT.out⟩
              case measure => (simp [intOf]) <;> omega
          · obtain ⟨e5, hline, hsent, hq⟩ := taken_end T (by omega)
            have hstop : (n ≤ i ∧ n ≤ room) ∨ (i < n ∧ room ≤ i ∧ room < n) := by omega
            have HE5 := Lib.hid e5
            have HL := Lib.hid hline
            have HSN := Lib.hid hsent
            have HC := Lib.hid (fun w' (hb : Below w1.heap.size w1 w') => conv_in (c := c) (bytes_below HJ.out (HB1.out.trans (hb.mono HB1.out.size))))
            clear e5 hline hsent hq T hin
            rcases hstop with ⟨h1, h2⟩ | ⟨h1, h2, h3⟩
            · have g1 : (n : Int) ≤ i := by omega
              have g2 : (n : Int) ≤ room := by omega
              have HV := Lib.hid (HE5.out.trans (if_neg (by omega)))
              clear h1 h2
              go_wp2_with fail
              refine (in_at A 5).mono ?_
              rintro e w5 ⟨rfl, A5⟩
              rw [HV.out]
              clear A
              generalize U.inS 5 = V at *
              have A5d := uat_drewN A5 1
              have cv := HC.out w5 A5.below
              have cvd := HC.out w5.drew A5d.below
              have cvn := HC.out (w5.drewN 1) A5d.below
              go_upto_region 25 with (fail)
              go_region_with (first
                | (go_at_call 19; refine (line_at A5d).mono ?_; rintro e w6 ⟨rfl, rfl⟩; rw [HL.out])
                | (go_at_call 11; first
                    | ((with_reducible refine (sent_at A5d).mono ?_); rintro e w7 ⟨v7, rfl, R7, -, A7, -⟩; rw [HSN.out] at R7; have cv7 := HC.out _ A7.below; have cr7 := conv_row R7)
                    | ((with_reducible refine (sent_at A7).mono ?_); rintro e w8 ⟨v8, rfl, R8, -, A8, -⟩; have R8 : w8.ownsRow 0 5 1 v8 0 [] := R8; obtain ⟨a8, c8, rfl⟩ := row_len R8)))
              all_goals
                have HE := Lib.hid (HB1.out.trans (A8.below.mono HB1.out.size))
                clear HC cv cvd cvn cv7 cr7
                go_wp2_with fail
                go_ret
                exact ⟨rfl, HE.out⟩
            · have g1 : (i : Int) < n := by omega
              have g3 : (room : Int) ≤ i := by omega
              have g2 : (room : Int) < n := by omega
              have HV := Lib.hid (HE5.out.trans (if_pos h3))
              clear h1 h2 h3
              go_wp2_with fail
              refine (in_at A 5).mono ?_
              rintro e w5 ⟨rfl, A5⟩
              rw [HV.out]
              clear A
              generalize U.inS 5 = V at *
              have A5d := uat_drewN A5 1
              have cv := HC.out w5 A5.below
              have cvd := HC.out w5.drew A5d.below
              have cvn := HC.out (w5.drewN 1) A5d.below
              go_upto_region 25 with (fail)
              go_region_with (first
                | (go_at_call 19; refine (line_at A5d).mono ?_; rintro e w6 ⟨rfl, rfl⟩; rw [HL.out])
                | (go_at_call 11; first
                    | ((with_reducible refine (sent_at A5d).mono ?_); rintro e w7 ⟨v7, rfl, R7, -, A7, -⟩; rw [HSN.out] at R7; have cv7 := HC.out _ A7.below; have cr7 := conv_row R7)
                    | ((with_reducible refine (sent_at A7).mono ?_); rintro e w8 ⟨v8, rfl, R8, -, A8, -⟩; have R8 : w8.ownsRow 0 5 1 v8 0 [] := R8; obtain ⟨a8, c8, rfl⟩ := row_len R8)))
              all_goals
                have HE := Lib.hid (HB1.out.trans (A8.below.mono HB1.out.size))
                clear HC cv cvd cvn cv7 cr7
                go_wp2_with fail
                go_ret
                exact ⟨rfl, HE.out⟩

set_option maxRecDepth 100000 in
theorem lifted (os : Os) (started : os.Started) (H : Type) (enc : TypeId × Value → H) :
    ReturnsInHanded {} Try.checked os 6 .any (Rows.uartOrdersSpec.pre6 enc Try.prog Try.f6 Rows.uartOrdersRow.domain false) (Rows.uartOrdersSpec.post enc Try.prog Try.f6 false true false false) := by
  refine returnsInHanded_of_change_sized (C := Try.checked) own started (by kernel_rfl) Try.func6
    (ChangeSpec.witness6 (enc := enc) (C := Try.checked) false ⟨#[], #[.slice none 0 0, .bool false], []⟩ 8 (by kernel_rfl) (by kernel_rfl) (by kernel_rfl) (by kernel_rfl)) ?_
  intro W base args ds gs before hval0 hW hcnd hsz _
  have hval : ∀ (j : Nat) t v, Try.f6.params[j]? = some t → args[j]? = some v → Value.okWide Try.prog W .any base t v := hval0
  have hW' := hW
  obtain ⟨p, q, hA0, hV, rfl, hfz, hnd⟩ := hW
  have hA : DataW.TrodAll enc Try.prog W 0 (fun _ => true) true Try.f6.params.toList args.toList ds p := hA0
  rw [Try.params6] at hA hval
  obtain ⟨v0, vs0, d0, ds0, p0, q0, hargs, rfl, rfl, h0, r0⟩ := trodAll_cons hA
  obtain ⟨v1, vs1, d1, ds1, p1, q1, rfl, rfl, rfl, h1, r1⟩ := trodAll_cons r0
  obtain ⟨rfl, rfl, rfl⟩ := trodAll_nil r1
  obtain rfl : args = #[v0, v1] := by cases args; simp_all
  clear hA0 hval0
  obtain ⟨a0, n0, c0, z0, rfl, m0, J0⟩ := arg_ints Try.underlying27 Try.underlying5 (by kernel_rfl) (hval 0 27 v0 rfl rfl) h0
  have R0 : n0 * Try.prog.bytesOf 5 ≤ 140737488351232 := arg_reach (j := 0) hsz rfl rfl Try.underlying27 h0
  rw [show Try.prog.bytesOf 5 = 1 by kernel_rfl, Nat.mul_one] at R0
  obtain ⟨a1, rfl⟩ := arg_bool Try.underlying4 (hval 1 4 v1 rfl rfl)
  exact law_end (by kernel_rfl) hW' rfl (by kernel_rfl) Try.underlying4 rfl rfl (walk W a0 n0 c0 z0 m0 J0 R0 a1)

theorem proved : Rows.UartOrdersSaid :=
  OpenClaim.holds_of_wide 6 Try.f6 rfl rfl rfl rfl rfl rfl rfl ⟨rfl, rfl, rfl, rfl, rfl⟩ rfl rfl rfl rfl rfl (by kernel_rfl) Try.func6 (by kernel_rfl)
    (of_decide_eq_true (by kernel_rfl)) (by unfold Func.isWrapper; first | (rw [if_pos (by decide +kernel)]; kernel_rfl) | (rw [if_neg (by decide +kernel)]; exact ⟨rfl, rfl⟩))
    (fun os started H enc _ => lifted os started H enc)
#print axioms proved
end Go.Proofs.Ytliiccmpfmgioaa.uartOrders
