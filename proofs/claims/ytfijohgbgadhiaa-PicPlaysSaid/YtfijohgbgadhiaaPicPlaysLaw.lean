/- 'drawloom/drawloomlaw11.PicPlays' answers true for every input. Conditions: none. -/
import Derived.Test.YtfijohgbgadhiaaFrame
import Derived.Test.YtfijohgbgadhiaaPicT
import Derived.Deep.RegionWith
import Derived.Deep.RegionHeld3
import Derived.Deep.CutRange
namespace Go.Proofs.Ytfijohgbgadhiaa.picPlays
open Go.ChangeShapes Go.WideShapes Go.ChangeAt Go.RowKit
set_option linter.unusedVariables false

/-- Both pairs behind some calls. -/
def Rel (w1 : World) (b rb : Nat) (wc : World) : Prop := ∃ c d wF, TwoP w1 wc b rb c d c d (fun _ => False) wF
/-- What the law's own copy of a call holds. -/
def Own (w : World) (g : Nat) (kk rr : Int) (xx : Nat) (uu : Bool) : Prop :=
  w.cell? ⟨g, 0, none⟩ = some (.int .i64 kk) ∧ w.cell? ⟨g, 1, none⟩ = some (.int .i64 rr) ∧ w.cell? ⟨g, 2, none⟩ = some (.int .u8 (xx : Nat)) ∧ w.cell? ⟨g, 3, none⟩ = some (.bool uu) ∧ g < w.heap.size
theorem own_of {w0 w wF : World} {b rb g : Nat} {c d c1 d1 : Chip} {F : Nat → Prop} {kk rr : Int} {xx : Nat} {uu : Bool} (h : TwoP w0 w b rb c d c1 d1 F wF) (hF : F g) (ho : Own wF g kk rr xx uu) : Own w g kk rr xx uu := by
  obtain ⟨a, c, d, e, l⟩ := ho
  have h0 := (h.cell hF 0).trans a
  exact ⟨h0, (h.cell hF 1).trans c, (h.cell hF 2).trans d, (h.cell hF 3).trans e, cell_block_lt h0⟩
set_option maxRecDepth 20000 in
set_option maxHeartbeats 8000000 in
theorem walk (w : World) (kd : Option Addr) (kl kc : Nat) (ki rg : Nat → Int) (x : Nat → Nat) (up : Nat → Bool) (hkl : kl ≤ 9223372036854775807) (J : OpsIn w kd kl ki rg x up) :
    Calls Try.prog 6 #[.slice kd kl kc] w fun e w' => e = .returned (.bool true) ∧ Below w.heap.size w w' := by
  go_enter Try.func6, Try.ntmps6
  go_wp2_with fail
  refine (awake_any _).mono ?_
  rintro e w1 ⟨rfl, B1⟩
  have HB1 := Lib.hid B1
  clear B1
  go_wp2_with fail
  refine (new_any w1).mono ?_
  rintro e w2 ⟨rfl, H2, B2⟩
  have HX := Lib.hid (And.intro H2 B2)
  clear H2 B2
  go_wp2_with fail
  refine (new_tw w1 HX.out.2 HX.out.2.size HX.out.1 (Nat.le_refl _)).mono ?_
  rintro e w3 ⟨rb, rfl, A3⟩
  have R0 : Rel w1 w1.heap.size rb w3 := ⟨_, _, _, A3⟩
  clear A3 HX
  generalize w1.heap.size = b at *
  go_wp2_with fail
  go_loopw [6] (fun i wc => ∃ k : Nat, k ≤ kl ∧ i = .int .i64 k ∧ Rel w1 b rb wc) (fun i _ => kl - (intOf i).toNat)
  case atStart => exact ⟨0, by omega, rfl, R0⟩
  case round =>
    clear R0
    obtain ⟨k, hk, rfl, c, d, wF, A⟩ := hrel
    by_cases hlt : k < kl
    · obtain ⟨kb, ko, rfl, A2⟩ : ∃ b off, kd = some ⟨b, off, none⟩ ∧ OpsAt w b off kl ki rg x up := by
        rcases J with h | h
        · omega
        · exact h
      have AT := A2.below (HB1.out.trans (A.B.mono HB1.out.size)) A2.hb
      have c0 := AT.c0 k hlt
      have c1 := AT.c1 k hlt
      have c2 := AT.c2 k hlt
      have c3 := AT.c3 k hlt
      have HU := Lib.hid (AT.u2 k hlt)
      have p1 : (0 : Int) ≤ (k : Int) := by omega
      have p2 : (k : Int) < kl := by omega
      have hl := AT.hb
      clear A2 AT
      generalize ki k = kk at *
      generalize rg k = rr at *
      generalize x k = xx at *
      generalize up k = uu at *
      go_upto_region 11 with (fail)
      have A1 := A.grow (.cells #[.int .i64 kk, .int .i64 rr, .int .u8 xx, .bool uu] 40)
      have hO : (wr.alloc (.cells #[.int .i64 kk, .int .i64 rr, .int .u8 xx, .bool uu] 40)).heap[wr.heap.size]? = some (.cells #[.int .i64 kk, .int .i64 rr, .int .u8 xx, .bool uu] 40) := heap_new _ _
      generalize wr.alloc (.cells #[.int .i64 kk, .int .i64 rr, .int .u8 xx, .bool uu] 40) = wz at A1 hO ⊢
      generalize wr.heap.size = g at A1 hO ⊢
      have O0 : Own wz g kk rr xx uu := ⟨by rw [cell_at hO]; rfl, by rw [cell_at hO]; rfl, by rw [cell_at hO]; rfl, by rw [cell_at hO]; rfl, heap_lt hO⟩
      clear A hO c0 c1 c2 c3 hl
      have HO := Lib.hid O0
      obtain ⟨z0, z1, z2, z3, zl⟩ := O0
      by_cases h1 : kk = 1
      · subst h1
        have A1d := A1.drew
        go_upto_region 13 with (fail)
        go_region_held3 (fun w' => w'.cell? ⟨g, 1, none⟩ = some (.int .i64 rr) ∧ w'.cell? ⟨g, 2, none⟩ = some (.int .u8 (xx : Nat)))
          (go_keep)
          (first
            | (go_at_call 10; (with_reducible refine (out_tw A1d rr xx HU.out).mono ?_); rintro e w6 ⟨rfl, A6⟩; obtain ⟨y0, y1, y2, y3, yl⟩ := own_of A6 rfl HO.out)
            | (go_at_call 16; (with_reducible refine (rout_tw A6 rr xx HU.out).mono ?_); rintro e w7 ⟨rfl, A7⟩; obtain ⟨x0, x1, x2, x3, xl⟩ := own_of A7 rfl HO.out))
        all_goals
          go_wp2_with fail
          refine (pending_tw A7).mono ?_
          rintro e w8 ⟨rfl, A8⟩
          go_wp2_with fail
          refine (rpending_tw A8).mono ?_
          rintro e w9 ⟨rfl, A9⟩
          go_wp2_with fail
          go_roundw
          case rel => exact ⟨k + 1, by omega, by go_num, _, _, _, A9.bare⟩
          case measure => (simp [intOf]) <;> omega
      by_cases h2 : kk = 2
      · subst h2
        clear h1
        go_wp2_with fail
        refine (in_tw A1 rr).mono ?_
        rintro e w6 ⟨rfl, A6⟩
        obtain ⟨y0, y1, y2, y3, yl⟩ := own_of A6 rfl HO.out
        go_wp2_with fail
        refine (rin_tw A6 rr).mono ?_
        rintro e w7 ⟨rfl, A7⟩
        go_wp2_with fail
        refine (pending_tw A7).mono ?_
        rintro e w8 ⟨rfl, A8⟩
        go_wp2_with fail
        refine (rpending_tw A8).mono ?_
        rintro e w9 ⟨rfl, A9⟩
        go_wp2_with fail
        go_roundw
        case rel => exact ⟨k + 1, by omega, by go_num, _, _, _, A9.bare⟩
        case measure => (simp [intOf]) <;> omega
      by_cases h3 : kk = 3
      · subst h3
        clear h1 h2
        have A1d := A1.drew
        go_upto_region 19 with (fail)
        go_region_held3 (fun w' => w'.cell? ⟨g, 1, none⟩ = some (.int .i64 rr) ∧ w'.cell? ⟨g, 3, none⟩ = some (.bool uu))
          (go_keep)
          (first
            | (go_at_call 11; (with_reducible refine (line_tw A1d rr uu).mono ?_); rintro e w6 ⟨rfl, A6⟩; obtain ⟨y0, y1, y2, y3, yl⟩ := own_of A6 rfl HO.out)
            | (go_at_call 19; (with_reducible refine (rline_tw A6 rr uu).mono ?_); rintro e w7 ⟨rfl, A7⟩; obtain ⟨x0, x1, x2, x3, xl⟩ := own_of A7 rfl HO.out))
        all_goals
          go_wp2_with fail
          refine (pending_tw A7).mono ?_
          rintro e w8 ⟨rfl, A8⟩
          go_wp2_with fail
          refine (rpending_tw A8).mono ?_
          rintro e w9 ⟨rfl, A9⟩
          go_wp2_with fail
          go_roundw
          case rel => exact ⟨k + 1, by omega, by go_num, _, _, _, A9.bare⟩
          case measure => (simp [intOf]) <;> omega
      by_cases h4 : kk = 4
      · subst h4
        clear h1 h2 h3
        go_wp2_with fail
        refine (ack_tw A1).mono ?_
        rintro e w6 ⟨rfl, A6⟩
        go_wp2_with fail
        refine (rack_tw A6).mono ?_
        rintro e w7 ⟨rfl, A7⟩
        go_wp2_with fail
        refine (pending_tw A7).mono ?_
        rintro e w8 ⟨rfl, A8⟩
        go_wp2_with fail
        refine (rpending_tw A8).mono ?_
        rintro e w9 ⟨rfl, A9⟩
        go_wp2_with fail
        go_roundw
        case rel => exact ⟨k + 1, by omega, by go_num, _, _, _, A9.bare⟩
        case measure => (simp [intOf]) <;> omega
      go_wp2_with fail
      refine (pending_tw A1).mono ?_
      rintro e w8 ⟨rfl, A8⟩
      go_wp2_with fail
      refine (rpending_tw A8).mono ?_
      rintro e w9 ⟨rfl, A9⟩
      go_wp2_with fail
      go_roundw
      case rel => exact ⟨k + 1, by omega, by go_num, _, _, _, A9.bare⟩
      case measure => (simp [intOf]) <;> omega
    · have p2 : (kl : Int) ≤ k := by omega
      have HE := Lib.hid (HB1.out.trans (A.B.mono HB1.out.size))
      clear hlt A
      go_wp2_with fail
      go_ret
      exact ⟨rfl, HE.out⟩

set_option maxRecDepth 100000 in
theorem lifted (os : Os) (started : os.Started) (H : Type) (enc : TypeId × Value → H) :
    ReturnsInHanded {} Try.checked os 6 .any (Rows.picPlaysSpec.pre6 enc Try.prog Try.f6 Rows.picPlaysRow.domain false) (Rows.picPlaysSpec.post enc Try.prog Try.f6 false true false false) := by
  refine returnsInHanded_of_change (C := Try.checked) own started (by kernel_rfl) Try.func6
    (ChangeSpec.witness6 (enc := enc) (C := Try.checked) false ⟨#[], #[.slice none 0 0], []⟩ 8 (by kernel_rfl) (by kernel_rfl) (by kernel_rfl) (by kernel_rfl)) ?_
  intro W base args ds gs before hval0 hW hcnd _
  have hval : ∀ (j : Nat) t v, Try.f6.params[j]? = some t → args[j]? = some v → Value.okWide Try.prog W .any base t v := hval0
  have hW' := hW
  obtain ⟨p, q, hA0, hV, rfl, hfz, hnd⟩ := hW
  have hA : DataW.TrodAll enc Try.prog W 0 (fun _ => true) true Try.f6.params.toList args.toList ds p := hA0
  rw [Try.params6] at hA hval
  obtain ⟨v0, vs0, d0, ds0, p0, q0, hargs, rfl, rfl, h0, r0⟩ := trodAll_cons hA
  obtain ⟨rfl, rfl, rfl⟩ := trodAll_nil r0
  obtain rfl : args = #[v0] := by cases args; simp_all
  clear hA0 hval0
  obtain ⟨a0, n0, c0, ki0, rg0, x0, u0, rfl, m0, J0⟩ := arg_ops (hval 0 36 v0 rfl rfl) h0
  exact law_end (by kernel_rfl) hW' rfl (by kernel_rfl) Try.underlying4 rfl rfl (walk W a0 n0 c0 ki0 rg0 x0 u0 m0 J0)

theorem proved : Rows.PicPlaysSaid :=
  OpenClaim.holds_of_wide 6 Try.f6 rfl rfl rfl rfl rfl rfl rfl ⟨rfl, rfl, rfl, rfl, rfl⟩ rfl rfl rfl rfl rfl (by kernel_rfl) Try.func6 (by kernel_rfl)
    (of_decide_eq_true (by kernel_rfl)) (by unfold Func.isWrapper; first | (rw [if_pos (by decide +kernel)]; kernel_rfl) | (rw [if_neg (by decide +kernel)]; exact ⟨rfl, rfl⟩))
    (fun os started H enc _ => lifted os started H enc)
#print axioms proved
end Go.Proofs.Ytfijohgbgadhiaa.picPlays
