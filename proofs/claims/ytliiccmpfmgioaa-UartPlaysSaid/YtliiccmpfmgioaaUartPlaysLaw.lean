/- 'drawloom/drawloomlaw13.UartPlays' answers true for every input. Conditions: none. -/
import Derived.Test.YtliiccmpfmgioaaFrame
import Derived.Test.YtliiccmpfmgioaaUartV
import Derived.Deep.RegionWith
import Derived.Deep.RegionHeld3
import Derived.Deep.CutRange
namespace Go.Proofs.Ytliiccmpfmgioaa.uartPlays
open Go.ChangeShapes Go.WideShapes Go.ChangeAt Go.RowKit
set_option linter.unusedVariables false

/-- A length within the reach. -/
structure Upto (n : Nat) : Prop where
  out : n ≤ 140737488351232
theorem sent_out (U : Ut) (r : Int) (v : Nat) : (U.out r v).sent.length ≤ U.sent.length + 1 := by
  unfold Ut.out Ut.setD
  repeat' split
  all_goals first | exact Nat.le_succ _ | (unfold Ut.send; simp)
theorem sent_in (U : Ut) (r : Int) : (U.inS r).sent = U.sent := by
  unfold Ut.inS Ut.ask
  repeat' split
  all_goals rfl
theorem sent_push (U : Ut) (v : Nat) : (U.push v).sent = U.sent := by
  unfold Ut.push
  repeat' split
  all_goals rfl
/-- Both ports behind k calls. -/
def Rel (w1 : World) (b rb k : Nat) (wc : World) : Prop := ∃ U wF, Two w1 wc b rb U U (fun _ => False) wF ∧ U.sent.length ≤ k
/-- What the law's own copy of a call holds. -/
def Own (w : World) (g : Nat) (kk rr : Int) (xx : Nat) : Prop :=
  w.cell? ⟨g, 0, none⟩ = some (.int .i64 kk) ∧ w.cell? ⟨g, 1, none⟩ = some (.int .i64 rr) ∧ w.cell? ⟨g, 2, none⟩ = some (.int .u8 (xx : Nat)) ∧ g < w.heap.size
theorem own_of {w0 w wF : World} {b rb g : Nat} {U V : Ut} {F : Nat → Prop} {kk rr : Int} {xx : Nat} (h : Two w0 w b rb U V F wF) (hF : F g) (ho : Own wF g kk rr xx) : Own w g kk rr xx := by
  obtain ⟨a, c, d, l⟩ := ho
  have h0 := (h.cell hF 0).trans a
  exact ⟨h0, (h.cell hF 1).trans c, (h.cell hF 2).trans d, cell_block_lt h0⟩
theorem own_drew {w : World} {g : Nat} {kk rr : Int} {xx : Nat} (h : Own w g kk rr xx) (n : Nat) : Own (w.drewN n) g kk rr xx := h
/-- What was told lies in a block of the law's own. -/
def Blk (w : World) (a : Option Addr) (n : Nat) : Prop := n = 0 ∨ ∃ gb cur, a = some ⟨gb, 0, none⟩ ∧ w.heap[gb]? = some (.cells cur 5 (0, 0)) ∧ n ≤ cur.size
theorem row_open {w : World} {n : Nat} {v : Value} {xs : List Value} (h : w.ownsRow 0 5 1 v n xs) : ∃ a m c, v = .slice a m c ∧ m = n ∧ Blk w a m := by
  rcases h.2 with ⟨rfl, h0⟩ | ⟨g, cap, cur, rfl, _, hg, h1, h2, h3, h4⟩
  · exact ⟨_, _, _, rfl, h0.symm, .inl rfl⟩
  · exact ⟨_, _, _, rfl, rfl, .inr ⟨g, cur, rfl, hg, by omega⟩⟩
def Part (w1 : World) (b rb g : Nat) (a : Option Addr) (n : Nat) (U : Ut) (wc : World) : Prop :=
  ∃ wF, Two w1 wc b rb U.quit U.quit (fun k => k = g ∨ a.map (·.block) = some k) wF ∧ Blk wc a n
theorem Part.store {w1 wc : World} {b rb g n j : Nat} {a : Option Addr} {U : Ut} (h : Part w1 b rb g a n U wc) (hj : j < n) :
    ∃ gb, a = some ⟨gb, 0, none⟩ ∧ ∃ u, wc.cell? ⟨gb, j, none⟩ = some u ∧ wc.frozen? ⟨gb, j, none⟩ = false ∧ gb < wc.heap.size ∧ Part w1 b rb g (some ⟨gb, 0, none⟩) n U (wc.setCell ⟨gb, j, none⟩ (.int .u8 99)) := by
  obtain ⟨wF, A, h0 | ⟨gb, cur, rfl, hg, hc⟩⟩ := h
  · omega
  · refine ⟨gb, rfl, cur[j]'(by omega), ?_, free_at hg, heap_lt hg, wc.setCell ⟨gb, j, none⟩ (.int .u8 99), A.touch (S := fun k => k = gb) ((Keeps.refl _ _).setOne _ _) (fun k hk => .inr (by rw [hk]; rfl)), .inr ⟨gb, cur.setIfInBounds j (.int .u8 99), rfl, ?_, by simpa using hc⟩⟩
    · rw [cell_at hg]; exact Array.getElem?_eq_getElem (by omega)
    · rw [heap_set_map, hg]; rfl
set_option maxRecDepth 20000 in
set_option maxHeartbeats 8000000 in
theorem walk (w : World) (kd : Option Addr) (kl kc : Nat) (ki rg : Nat → Int) (x : Nat → Nat) (hkl : kl ≤ 9223372036854775807) (J : OpsIn w kd kl ki rg x) (hr : kl * 24 ≤ 140737488351232) :
    Calls Try.prog 5 #[.slice kd kl kc] w fun e w' => e = .returned (.bool true) ∧ Below w.heap.size w w' := by
  have HN : Upto kl := ⟨by omega⟩
  clear hkl hr
  go_enter Try.func5, Try.ntmps5
  go_wp2_with fail
  refine (awake_any _).mono ?_
  rintro e w1 ⟨rfl, B1⟩
  have HB1 := Lib.hid B1
  clear B1
  go_wp2_with fail
  refine (new_at w1).mono ?_
  rintro e w2 ⟨b, rfl, A⟩
  go_wp2_with fail
  refine (rnew_two A).mono ?_
  rintro e w3 ⟨rb, rfl, A3⟩
  clear A
  have R0 : Rel w1 b rb 0 w3 := ⟨_, _, A3, Nat.le_refl _⟩
  clear A3
  go_wp2_with fail
  go_loopw [6] (fun i wc => ∃ k : Nat, k ≤ kl ∧ i = .int .i64 k ∧ Rel w1 b rb k wc) (fun i _ => kl - (intOf i).toNat)
  case atStart => exact ⟨0, by omega, rfl, R0⟩
  case round =>
    clear R0
    obtain ⟨k, hk, rfl, U, wF, A, hs⟩ := hrel
    have hkl := HN.out
    by_cases hlt : k < kl
    · obtain ⟨kb, ko, rfl, A2⟩ : ∃ b off, kd = some ⟨b, off, none⟩ ∧ OpsAt w b off kl ki rg x := by
        rcases J with h | h
        · omega
        · exact h
      have AT := A2.below (HB1.out.trans (A.below.mono HB1.out.size)) A2.hb
      have c0 := AT.c0 k hlt
      have c1 := AT.c1 k hlt
      have c2 := AT.c2 k hlt
      have HU := Lib.hid (AT.u2 k hlt)
      have p1 : (0 : Int) ≤ (k : Int) := by omega
      have p2 : (k : Int) < kl := by omega
      have hl := AT.hb
      have HS := Lib.hid hs
      have HL := Lib.hid (show U.sent.length + 1 ≤ 140737488355328 by omega)
      clear A2 AT hs
      generalize ki k = kk at *
      generalize rg k = rr at *
      generalize x k = xx at *
      go_upto_region 11 with (fail)
      have A1 := (A.grow (.cells #[.int .i64 kk, .int .i64 rr, .int .u8 xx] 36)).fewer (G := fun k => k = wr.heap.size) (fun k h => .inr h)
      have hO : (wr.alloc (.cells #[.int .i64 kk, .int .i64 rr, .int .u8 xx] 36)).heap[wr.heap.size]? = some (.cells #[.int .i64 kk, .int .i64 rr, .int .u8 xx] 36) := heap_new _ _
      generalize wr.alloc (.cells #[.int .i64 kk, .int .i64 rr, .int .u8 xx] 36) = wz at A1 hO ⊢
      generalize wr.heap.size = g at A1 hO ⊢
      have O0 : Own wz g kk rr xx := ⟨by rw [cell_at hO]; rfl, by rw [cell_at hO]; rfl, by rw [cell_at hO]; rfl, heap_lt hO⟩
      clear A hO c0 c1 c2 hl
      have HO := Lib.hid O0
      obtain ⟨z0, z1, z2, zl⟩ := O0
      by_cases h1 : kk = 1
      · subst h1
        have A1d : Two w1 wz.drew b rb U U (fun k => k = g) _ := A1.drewN 1
        go_upto_region 13 with (fail)
        go_region_held3 (fun w' => w'.cell? ⟨g, 1, none⟩ = some (.int .i64 rr) ∧ w'.cell? ⟨g, 2, none⟩ = some (.int .u8 (xx : Nat)))
          (go_keep)
          (first
            | (go_at_call 10; (with_reducible refine (out_two A1d rr xx HU.out HL.out).mono ?_); rintro e w6 ⟨rfl, A6⟩; obtain ⟨y0, y1, y2, yl⟩ := own_of A6 rfl HO.out)
            | (go_at_call 14; (with_reducible refine (rwrite_two A6 rr xx HU.out HL.out).mono ?_); rintro e w7 ⟨rfl, A7⟩; obtain ⟨x0, x1, x2, xl⟩ := own_of A7 rfl HO.out))
        all_goals
          have HS2 := Lib.hid (Nat.le_trans (sent_out U rr xx) (Nat.succ_le_succ HS.out))
          go_wp2_with fail
          refine (line_two A7).mono ?_
          rintro e w8 ⟨rfl, rfl⟩
          go_wp2_with fail
          refine (rline_two A7).mono ?_
          rintro e w8 ⟨rfl, rfl⟩
          go_wp2_with fail
          go_roundw
          case rel => exact ⟨k + 1, by omega, by go_num, _, _, A7.fewer (fun k h => h.elim), HS2.out⟩
          case measure => (simp [intOf]) <;> omega
      by_cases h2 : kk = 2
      · subst h2
        clear h1
        go_wp2_with fail
        refine (in_two A1 rr).mono ?_
        rintro e w6 ⟨rfl, A6⟩
        obtain ⟨y0, y1, y2, yl⟩ := own_of A6 rfl HO.out
        go_wp2_with fail
        refine (rread_two A6 rr).mono ?_
        rintro e w7 ⟨rfl, A7⟩
        have HS2 := Lib.hid (show (U.inS rr).sent.length ≤ k + 1 by rw [sent_in]; exact Nat.le_succ_of_le HS.out)
        go_wp2_with fail
        refine (line_two A7).mono ?_
        rintro e w8 ⟨rfl, rfl⟩
        go_wp2_with fail
        refine (rline_two A7).mono ?_
        rintro e w8 ⟨rfl, rfl⟩
        go_wp2_with fail
        go_roundw
        case rel => exact ⟨k + 1, by omega, by go_num, _, _, A7.fewer (fun k h => h.elim), HS2.out⟩
        case measure => (simp [intOf]) <;> omega
      by_cases h3 : kk = 3
      · subst h3
        clear h1 h2
        go_wp2_with fail
        refine (push_two A1 xx HU.out).mono ?_
        rintro e w6 ⟨rfl, A6⟩
        obtain ⟨y0, y1, y2, yl⟩ := own_of A6 rfl HO.out
        go_wp2_with fail
        refine (rpush_two A6 xx HU.out).mono ?_
        rintro e w7 ⟨rfl, A7⟩
        have HS2 := Lib.hid (show (U.push xx).sent.length ≤ k + 1 by rw [sent_push]; exact Nat.le_succ_of_le HS.out)
        go_wp2_with fail
        refine (line_two A7).mono ?_
        rintro e w8 ⟨rfl, rfl⟩
        go_wp2_with fail
        refine (rline_two A7).mono ?_
        rintro e w8 ⟨rfl, rfl⟩
        go_wp2_with fail
        go_roundw
        case rel => exact ⟨k + 1, by omega, by go_num, _, _, A7.fewer (fun k h => h.elim), HS2.out⟩
        case measure => (simp [intOf]) <;> omega
      by_cases h4 : kk = 4
      · subst h4
        clear h1 h2 h3
        go_wp2_with fail
        refine (sent_two A1).mono ?_
        rintro e w6 ⟨v6, rfl, R6, A6, -⟩
        have cv := conv_row R6
        have cve : (convert 27 9 v6).run Try.prog w6.drew = .ok (.string (strL U.sent)) w6.drew := conv_row (w := w6.drewN 1) R6
        have A6d : Two w1 w6.drew b rb U.quit U _ w6 := A6.drewN 1
        have HR6 := Lib.hid R6
        clear R6
        go_upto_region 23 with (fail)
        go_region_with (go_at_call 18; (with_reducible refine (rsent_two A6d).mono ?_); rintro e w7 ⟨v7, rfl, R7, A7⟩; have cr7 := conv_row R7; have cv7 := conv_row (A7.row HR6.out (fun k hk => .inr hk)))
        all_goals
          have HX := Lib.hid (A7.row HR6.out (fun k hk => .inr hk))
          clear cv cve A6d A6 cr7 cv7 R7 HR6 A1
          obtain ⟨a6, n6, c6, hv6, hn6, hblk⟩ := row_open HX.out
          obtain rfl := hv6
          have P0 : Part w1 b rb g a6 n6 U w7 := ⟨_, A7.fewer (fun k h => h.imp id (fun h => by rw [← h]; cases a6 <;> rfl)), hblk⟩
          have HN6 : Upto n6 := ⟨by rw [hn6]; exact Nat.le_trans HS.out (Nat.le_trans hk HN.out)⟩
          clear HX A7 hblk hn6 z0 z1 z2 zl
          go_wp2_with fail
          go_loopw [14] (fun i wc => ∃ j : Nat, j ≤ n6 ∧ i = .int .i64 j ∧ Part w1 b rb g a6 n6 U wc) (fun i _ => n6 - (intOf i).toNat)
          case atStart => exact ⟨0, Nat.zero_le _, rfl, P0⟩
          case round =>
            clear P0
            obtain ⟨j, hj, rfl, P⟩ := hrel
            have P6 := HN6.out
            by_cases hjn : j < n6
            · obtain ⟨gb, rfl, u, hu, hf, hlb, hset⟩ := P.store hjn
              have q1 : (0 : Int) ≤ (j : Int) := by omega
              have q2 : (j : Int) < n6 := by omega
              have HP := Lib.hid hset
              clear P hset
              go_wp2_with fail
              go_roundw
              case rel => exact ⟨j + 1, by omega, by go_num, HP.out⟩
              case measure => (simp [intOf]) <;> omega
            · have q2 : (n6 : Int) ≤ j := by omega
              obtain ⟨wF7, A7, -⟩ := P
              go_wp2_with fail
              refine (line_two A7).mono ?_
              rintro e w8 ⟨rfl, rfl⟩
              go_wp2_with fail
              refine (rline_two A7).mono ?_
              rintro e w8 ⟨rfl, rfl⟩
              go_wp2_with fail
              go_roundw
              case rel => exact ⟨k + 1, by omega, by go_num, _, _, A7.fewer (fun k h => h.elim), Nat.zero_le _⟩
              case measure => (simp [intOf]) <;> omega
      have HS2 := Lib.hid (show U.sent.length ≤ k + 1 from Nat.le_succ_of_le HS.out)
      go_wp2_with fail
      refine (line_two A1).mono ?_
      rintro e w8 ⟨rfl, rfl⟩
      go_wp2_with fail
      refine (rline_two A1).mono ?_
      rintro e w8 ⟨rfl, rfl⟩
      go_wp2_with fail
      go_roundw
      case rel => exact ⟨k + 1, by omega, by go_num, _, _, A1.fewer (fun k h => h.elim), HS2.out⟩
      case measure => (simp [intOf]) <;> omega
    · have p2 : (kl : Int) ≤ k := by omega
      have A0d : Two w1 wr.drew b rb U U _ wF := A.drewN 1
      clear hlt hs
      go_wp2_with fail
      go_region_with (first
        | (go_at_call 11; (with_reducible refine (sent_two A0d).mono ?_); rintro e w6 ⟨v6, rfl, R6, A6, -⟩; have cv6 := conv_row R6)
        | (go_at_call 18; (with_reducible refine (rsent_two A6).mono ?_); rintro e w7 ⟨v7, rfl, R7, A7⟩; have cr7 := conv_row R7; have cv7 := conv_row (A7.row R6 (fun k hk => .inr hk))))
      all_goals
        have HE := Lib.hid (HB1.out.trans (A7.below.mono HB1.out.size))
        clear cv6 cr7 cv7 R6 R7
        go_wp2_with fail
        go_ret
        exact ⟨rfl, HE.out⟩

set_option maxRecDepth 100000 in
theorem lifted (os : Os) (started : os.Started) (H : Type) (enc : TypeId × Value → H) :
    ReturnsInHanded {} Try.checked os 5 .any (Rows.uartPlaysSpec.pre6 enc Try.prog Try.f5 Rows.uartPlaysRow.domain false) (Rows.uartPlaysSpec.post enc Try.prog Try.f5 false true false false) := by
  refine returnsInHanded_of_change_sized (C := Try.checked) own started (by kernel_rfl) Try.func5
    (ChangeSpec.witness6 (enc := enc) (C := Try.checked) false ⟨#[], #[.slice none 0 0], []⟩ 8 (by kernel_rfl) (by kernel_rfl) (by kernel_rfl) (by kernel_rfl)) ?_
  intro W base args ds gs before hval0 hW hcnd hsz _
  have hval : ∀ (j : Nat) t v, Try.f5.params[j]? = some t → args[j]? = some v → Value.okWide Try.prog W .any base t v := hval0
  have hW' := hW
  obtain ⟨p, q, hA0, hV, rfl, hfz, hnd⟩ := hW
  have hA : DataW.TrodAll enc Try.prog W 0 (fun _ => true) true Try.f5.params.toList args.toList ds p := hA0
  rw [Try.params5] at hA hval
  obtain ⟨v0, vs0, d0, ds0, p0, q0, hargs, rfl, rfl, h0, r0⟩ := trodAll_cons hA
  obtain ⟨rfl, rfl, rfl⟩ := trodAll_nil r0
  obtain rfl : args = #[v0] := by cases args; simp_all
  clear hA0 hval0
  obtain ⟨a0, n0, c0, ki0, rg0, x0, rfl, m0, J0⟩ := arg_ops (hval 0 32 v0 rfl rfl) h0
  have R0 : n0 * Try.prog.bytesOf 36 ≤ 140737488351232 := arg_reach (j := 0) hsz rfl rfl Try.underlying32 h0
  rw [show Try.prog.bytesOf 36 = 24 by kernel_rfl] at R0
  exact law_end (by kernel_rfl) hW' rfl (by kernel_rfl) Try.underlying4 rfl rfl (walk W a0 n0 c0 ki0 rg0 x0 m0 J0 R0)

theorem proved : Rows.UartPlaysSaid :=
  OpenClaim.holds_of_wide 5 Try.f5 rfl rfl rfl rfl rfl rfl rfl ⟨rfl, rfl, rfl, rfl, rfl⟩ rfl rfl rfl rfl rfl (by kernel_rfl) Try.func5 (by kernel_rfl)
    (of_decide_eq_true (by kernel_rfl)) (by unfold Func.isWrapper; first | (rw [if_pos (by decide +kernel)]; kernel_rfl) | (rw [if_neg (by decide +kernel)]; exact ⟨rfl, rfl⟩))
    (fun os started H enc _ => lifted os started H enc)
#print axioms proved
end Go.Proofs.Ytliiccmpfmgioaa.uartPlays
