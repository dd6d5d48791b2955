/- 'drawloom/drawloomlaw11.PicMasks' answers true for every input. Conditions: none. -/
import Derived.Test.YtfijohgbgadhiaaFrame
import Derived.Test.YtfijohgbgadhiaaPicJ
import Derived.Test.YtfijohgbgadhiaaIn
namespace Go.Proofs.Ytfijohgbgadhiaa.picMasks
open Go.ChangeShapes Go.WideShapes Go.ChangeAt Go.RowKit
set_option linter.unusedVariables false

def goodN (L : Int) : Prop := L = 0 ∨ L = 1 ∨ L = 3 ∨ L = 4 ∨ L = 5 ∨ L = 6 ∨ L = 7
/-- A chip whose lines are all masked, line n asking. -/
structure Msk (n : Nat) (c : Chip) : Prop where
  m : c.masked = 255
  a : c.asks.testBit n = true
  a2 : c.asks.testBit 2 = false
  s : c.served = 0
  b : c.base = 32
  e : c.ends = false
  st : c.stage = 0
theorem msk_pend {n : Nat} {c d : Chip} (h : Msk n c) (hc : c.ok) : told0 c d = false := by
  unfold told0
  refine isTold_no ?_ (by rw [h.s]; decide)
  unfold left
  rw [h.m]
  simp
theorem msk_line {L : Int} (hL : goodN L) {c : Chip} (hc : c.ok) (h : Msk L.toNat c) (k : Int) (up : Bool) (hk : k ≠ L) : Msk L.toNat (lnc c k up) := by
  have h7 : 0 ≤ L ∧ L < 8 := by unfold goodN at hL; omega
  unfold lnc
  split
  · rename_i hr
    have e1 : (lineC c k.toNat up).masked = c.masked := by unfold lineC; split <;> rfl
    have e2 : (lineC c k.toNat up).served = c.served := by unfold lineC; split <;> rfl
    have e3 : (lineC c k.toNat up).base = c.base := by unfold lineC; split <;> rfl
    have e4 : (lineC c k.toNat up).ends = c.ends := by unfold lineC; split <;> rfl
    have e5 : (lineC c k.toNat up).stage = c.stage := by unfold lineC; split <;> rfl
    refine ⟨by rw [e1]; exact h.m, ?_, ?_, by rw [e2]; exact h.s, by rw [e3]; exact h.b, by rw [e4]; exact h.e, by rw [e5]; exact h.st⟩
    · rw [asks_line c hc _ _ (by omega) (by omega) up (by omega)]; exact h.a
    · rw [asks_line c hc _ _ (by omega) (by omega) up (by omega)]; exact h.a2
  · exact h
/-- The lines below i are down, but for n. -/
structure Dwn (n i : Nat) (c d : Chip) : Prop where
  c : ∀ j, j < 8 → j < i → j ≠ n → c.asks.testBit j = false
  d : ∀ j, j < 8 → j + 8 < i → d.asks.testBit j = false
theorem dwn_skip {n : Nat} {c d : Chip} (h : Dwn n n c d) (hn : n < 8) : Dwn n (n + 1) c d :=
  ⟨fun j hj hi hne => h.c j hj (by omega) hne, fun j hj hi => h.d j hj (by omega)⟩
theorem dwn_step {n i : Nat} {c d : Chip} (hc : c.ok) (hd : d.ok) (h : Dwn n i c d) (hi : i < 16) (hm : Msk n c) : Dwn n (i + 1) (lnc c (i : Int) false) (lnd d (i : Int) false) := by
  constructor
  · intro j hj hji hne
    unfold lnc
    split
    · rename_i hr
      rw [Int.toNat_natCast]
      by_cases e : i = j
      · subst e; exact asks_down c hc i hj
      · rw [asks_line c hc i j (by omega) hj false e]; exact h.c j hj (by omega) hne
    · by_cases e : j = 2
      · subst e; exact hm.a2
      · exact h.c j hj (by omega) hne
  · intro j hj hji
    unfold lnd
    split
    · rename_i hr
      rw [Int.toNat_natCast]
      by_cases e : i - 8 = j
      · subst e; exact asks_down d hd _ hj
      · rw [asks_line d hd (i - 8) j (by omega) hj false e]; exact h.d j hj (by omega)
    · exact h.d j hj (by omega)
theorem msk_end {L : Int} (hL : goodN L) {c d : Chip} (hc : c.ok) (hd : d.ok) (h : Msk L.toNat c) (hw : Dwn L.toNat 16 c d) : c.asks = 2 ^ L.toNat ∧ d.asks = 0 := by
  have h7 : 0 ≤ L ∧ L < 8 := by unfold goodN at hL; omega
  constructor
  · refine bits_eq hc.asks (Nat.pow_lt_pow_right (a := 2) (by decide) (by omega : L.toNat < 8)) fun j hj => ?_
    rw [bit_pow _ _ (by omega) hj]
    by_cases e : L.toNat = j
    · subst e; rw [h.a]; simp
    · rw [hw.c j hj (by omega) (fun x => e x.symm), decide_eq_false e]
  · refine bits_eq hd.asks (by decide) fun j hj => ?_
    rw [hw.d j hj (by omega)]; simp
theorem d_off {d : Chip} (hd : d.ok) (h : d.asks = 0) : isTold d.asks d.masked d.served = false := isTold_no (by rw [h]; unfold left; simp) hd.served
theorem ask0_off (c d : Chip) (hd : d.ok) (h : d.asks = 0) : ask0 c d = c.asks &&& 251 := by unfold ask0; rw [d_off hd h]; rfl
/-- The end: the line goes up again, the mask is taken away, the line is told. -/
theorem msk_out {L : Int} (hL : goodN L) {c d : Chip} (hc : c.ok) (hd : d.ok) (h : Msk L.toNat c) (hw : Dwn L.toNat 16 c d) :
    let c1 := otc (lnc c L true) 1 (255 - 2 ^ L.toNat)
    told0 c1 d = true ∧ ((vec0 c1 d : Nat) : Int) = 32 + L ∧ tkd c1 d = d ∧ told0 (tkc c1 d) d = false := by
  have hu : 2 ^ L.toNat ||| (2 ^ L.toNat &&& (255 - c.up)) = 2 ^ L.toNat := by
    refine Nat.eq_of_testBit_eq fun i => ?_
    rw [Nat.testBit_or, Nat.testBit_and]
    cases (2 ^ L.toNat).testBit i <;> simp
  obtain ⟨ha, hda⟩ := msk_end hL hc hd h hw
  have hk := d_off hd hda
  have hr : 0 ≤ L ∧ L ≤ 7 ∧ L ≠ 2 := by unfold goodN at hL; omega
  have e1 : lnc c L true = { c with asks := 2 ^ L.toNat, up := c.up ||| 2 ^ L.toNat } := by
    unfold lnc; rw [if_pos hr]; unfold lineC askUp; rw [if_pos rfl, ha, hu]
  have e2 : otc (lnc c L true) 1 (255 - 2 ^ L.toNat) = { c with asks := 2 ^ L.toNat, up := c.up ||| 2 ^ L.toNat, masked := 255 - 2 ^ L.toNat } := by
    rw [e1]; unfold otc outC; rw [if_neg (by decide), if_pos rfl, if_neg (by decide), if_pos h.st]
  intro c1
  have hc1 : c1 = { c with asks := 2 ^ L.toNat, up := c.up ||| 2 ^ L.toNat, masked := 255 - 2 ^ L.toNat } := e2
  have q1 : ask0 c1 d = 2 ^ L.toNat &&& 251 := by rw [ask0_off _ _ hd hda, hc1]
  have q2 : line0 c1 d = L.toNat ∧ L.toNat < 8 := by
    unfold line0
    rw [q1, hc1]
    show tz8 (left (2 ^ L.toNat &&& 251) (255 - 2 ^ L.toNat)) = _ ∧ _
    rcases hL with rfl | rfl | rfl | rfl | rfl | rfl | rfl <;> decide +kernel
  have q3 : told0 c1 d = true := by
    unfold told0 isTold
    show decide (line0 c1 d < tz8 c1.served) = true
    have : c1.served = 0 := by rw [hc1]; exact h.s
    rw [q2.1, this]
    have t : tz8 0 = 8 := by kernel_rfl
    rw [t]; exact decide_eq_true q2.2
  have n2 : L.toNat ≠ 2 := by omega
  have hb : c1.base = 32 := by rw [hc1]; exact h.b
  have htk : tkc c1 d = takeC c1 L.toNat := by unfold tkc; rw [q3, q2.1]; rfl
  refine ⟨q3, ?_, ?_, ?_⟩
  · unfold vec0; rw [q3, q2.1, if_pos rfl, if_neg n2, hb]; omega
  · unfold tkd; rw [q3, q2.1, if_pos rfl, if_neg n2]
  · rw [htk]
    unfold told0
    have z : (takeC c1 L.toNat).asks = 0 := by
      show c1.asks &&& (255 - 2 ^ L.toNat) = 0
      rw [hc1]
      show 2 ^ L.toNat &&& (255 - 2 ^ L.toNat) = 0
      rcases hL with rfl | rfl | rfl | rfl | rfl | rfl | rfl <;> decide +kernel
    refine isTold_no ?_ ?_
    · rw [ask0_off _ _ hd hda, z]; unfold left; simp
    · show servedC c1 L.toNat < 256
      unfold servedC
      rw [hc1]
      show (if c.ends then c.served else c.served ||| 2 ^ L.toNat) < 256
      rw [h.e, h.s]
      rcases hL with rfl | rfl | rfl | rfl | rfl | rfl | rfl <;> decide +kernel
theorem msk_start {L : Int} (hL : goodN L) : Msk L.toNat (lnc (otc (setC 32) 1 255) L true) := by
  rcases hL with rfl | rfl | rfl | rfl | rfl | rfl | rfl <;> exact ⟨by kernel_rfl, by decide +kernel, by decide +kernel, by kernel_rfl, by kernel_rfl, by kernel_rfl, by kernel_rfl⟩

set_option maxRecDepth 100000 in
set_option maxHeartbeats 8000000 in
theorem walk_some (n : Int) (n0 : IntKind.i64.min ≤ n) (n1 : n ≤ IntKind.i64.max) (w : World) (len cap : Nat) (z : Nat → Int) (hlen : len ≤ 9223372036854775807) (b off : Nat) (hb : b < w.heap.size) (hz : ∀ i, i < len → w.cell? ⟨b, off + i, none⟩ = some (.int .i64 (z i)) ∧ IntKind.i64.min ≤ z i ∧ z i ≤ IntKind.i64.max) :
    Calls Try.prog 4 #[.int .i64 n, .slice (some ⟨b, off, none⟩) len cap] w fun r w' => r = .returned (.bool true) ∧ Below w.heap.size w w' := by
  have n2 : -9223372036854775808 ≤ n := n0
  have n3 : n ≤ 9223372036854775807 := n1
  clear n0 n1
  go_enter Try.func4, Try.ntmps4
  go_wp2_with fail
  refine (awake_any _).mono ?_
  rintro r w0 ⟨rfl, b0⟩
  go_wp2_with fail
  refine (setup_any _).mono ?_
  rintro r w1 ⟨rfl, H1, b1⟩
  have S1 : St w w1 w0.heap.size (setC 32) (setC 40) := .of _ _ _ _ _ H1 (setC_ok _ (by decide)) (setC_ok _ (by decide)) (step_below b0 b1 (Nat.le_refl _)) b0.size
  clear H1 b0 b1
  go_upto_if 19 with (fail)
  go_cut [0] from 10 (fun x wc => ∃ y : Int, x = .int .i64 y ∧ 0 ≤ y ∧ y ≤ 9223372036854775807 ∧ w1 = wc)
  case first =>
    by_cases hl : n < 0
    all_goals
      go_wp2_with fail
      go_meet
      exact ⟨_, rfl, by omega, by omega, rfl⟩
  case rest =>
    obtain ⟨y, rfl, y0, y1, rfl⟩ := hcut
    have ey : y.tmod 8 = y % 8 := Int.tmod_eq_emod_of_nonneg y0
    have y8 : 0 ≤ y % 8 := by omega
    have y9 : y % 8 < 8 := by omega
    go_upto_if 26 with (fail)
    go_cut [0] from 10 (fun x wc => ∃ L : Int, x = .int .i64 L ∧ goodN L ∧ w1 = wc)
    case first =>
      by_cases h2 : y % 8 = 2
      all_goals
        go_wp2_with fail
        go_meet
        refine ⟨_, rfl, ?_, rfl⟩
        unfold goodN
        omega
    case rest =>
      obtain ⟨L, rfl, gL, rfl⟩ := hcut
      have hL0 : 0 ≤ L := by unfold goodN at gL; omega
      have hL1 : L ≤ 7 := by unfold goodN at gL; omega
      go_wp2_with fail
      refine (out_st S1 1 255 (by decide)).mono ?_
      rintro r w2 ⟨rfl, S2⟩
      go_wp2_with fail
      refine (line_st S2 L true).mono ?_
      rintro r w3 ⟨rfl, S3⟩
      have M3 := msk_start gL
      clear S1 S2
      generalize lnc (otc (setC 32) 1 255) L true = c3 at *
      generalize lnd (otd (setC 40) 1 255) L true = d3 at *
      go_wp2_with fail
      go_loopw [7] (fun i wr => ∃ k : Nat, k ≤ len ∧ i = .int .i64 k ∧ ∃ c d, St w wr w0.heap.size c d ∧ Msk L.toNat c) (fun i _ => len - (intOf i).toNat)
      case atStart => exact ⟨0, by omega, rfl, _, _, S3, M3⟩
      case round =>
        clear S3 M3
        obtain ⟨k, hk, rfl, c6, d6, S6, M6⟩ := hrel
        by_cases hlt : k < len
        · by_cases h50 : k < 50
          · have hck : ∃ v : Int, -9223372036854775808 ≤ v ∧ v ≤ 9223372036854775807 ∧ z k = v := ⟨z k, (hz k hlt).2.1, (hz k hlt).2.2, rfl⟩
            have hcell := (bcellB S6.B).1 b (off + k) hb
            rw [(hz k hlt).1] at hcell
            obtain ⟨v, v0, v1, hv⟩ := hck
            rw [hv] at hcell
            clear hv
            by_cases hv0 : 0 ≤ v
            · have ev : v.tmod 16 = v % 16 := Int.tmod_eq_emod_of_nonneg hv0
              by_cases hvL : v % 16 = L
              · go_wp2_with fail
                refine (pending_st S6).mono ?_
                rintro r w8 ⟨rfl, S8⟩
                rw [msk_pend M6 S6.cok]
                clear S6
                go_wp2_with fail
                go_roundw
                case rel => exact ⟨k + 1, by omega, by go_num, _, _, S8, M6⟩
                case measure => simp [intOf]; omega
              · go_wp2_with fail
                refine (line_st S6 _ _).mono ?_
                rintro r w7 ⟨rfl, S7⟩
                have M7 := msk_line gL S6.cok M6 (v % 16) ((k : Int) % 2 == 0) hvL
                clear S6 M6
                generalize lnc c6 (v % 16) ((k : Int) % 2 == 0) = c7 at *
                generalize lnd d6 (v % 16) ((k : Int) % 2 == 0) = d7 at *
                go_wp2_with fail
                refine (pending_st S7).mono ?_
                rintro r w8 ⟨rfl, S8⟩
                rw [msk_pend M7 S7.cok]
                clear S7
                go_wp2_with fail
                go_roundw
                case rel => exact ⟨k + 1, by omega, by go_num, _, _, S8, M7⟩
                case measure => simp [intOf]; omega
            · go_wp2_with fail
              refine (pending_st S6).mono ?_
              rintro r w8 ⟨rfl, S8⟩
              rw [msk_pend M6 S6.cok]
              clear S6
              go_wp2_with fail
              go_roundw
              case rel => exact ⟨k + 1, by omega, by go_num, _, _, S8, M6⟩
              case measure => simp [intOf]; omega
          ·
            go_wp2_with fail
            go_loopw [9] (fun i wr => ∃ k : Nat, k ≤ 16 ∧ i = .int .i64 k ∧ ∃ c d, St w wr w0.heap.size c d ∧ Msk L.toNat c ∧ Dwn L.toNat k c d) (fun i _ => 16 - (intOf i).toNat)
            case atStart => exact ⟨0, by omega, rfl, _, _, S6, M6, ⟨fun j _ h _ => absurd h (by omega), fun j _ h => absurd h (by omega)⟩⟩
            case round =>
              clear S6 M6
              obtain ⟨i, hi, rfl, c7, d7, S7, M7, D7⟩ := hrel
              by_cases hlt2 : i < 16
              · by_cases hiL : (i : Int) = L
                · have hi2 : i = L.toNat := by omega
                  have D8 : Dwn L.toNat (i + 1) c7 d7 := by rw [hi2] at D7 ⊢; exact dwn_skip D7 (by omega)
                  clear hi2
                  go_wp2_with fail
                  go_roundw
                  case rel => exact ⟨i + 1, by omega, by go_num, _, _, S7, M7, D8⟩
                  case measure => simp [intOf]; omega
                · go_wp2_with fail
                  refine (line_st S7 (i : Int) false).mono ?_
                  rintro r w8 ⟨rfl, S8⟩
                  have M8 := msk_line gL S7.cok M7 (i : Int) false hiL
                  have D8 := dwn_step S7.cok S7.dok D7 hlt2 M7
                  clear S7 M7 D7
                  generalize lnc c7 (i : Int) false = c8 at *
                  generalize lnd d7 (i : Int) false = d8 at *
                  go_wp2_with fail
                  go_roundw
                  case rel => exact ⟨i + 1, by omega, by go_num, _, _, S8, M8, D8⟩
                  case measure => simp [intOf]; omega
              · have hi16 : i = 16 := by omega
                have D8 : Dwn L.toNat 16 c7 d7 := by rw [hi16] at D7; exact D7
                have F := msk_out gL S7.cok S7.dok M7 D8
                have FF := Lib.hid F
                clear hi16 D7 F M7
                go_wp2_with fail
                refine (line_st S7 L true).mono ?_
                rintro r w8 ⟨rfl, S8⟩
                have ed : lnd d7 L true = d7 := by unfold lnd; rw [if_neg (by omega)]
                rw [ed] at S8
                clear ed S7
                go_wp2_with fail
                refine (out_stv S8 1 _ (255 - 2 ^ L.toNat) (by rcases gL with rfl | rfl | rfl | rfl | rfl | rfl | rfl <;> decide) (by rcases gL with rfl | rfl | rfl | rfl | rfl | rfl | rfl <;> decide)).mono ?_
                rintro r w9 ⟨rfl, S9⟩
                have S9 : St w w9 w0.heap.size (otc (lnc c7 L true) 1 (255 - 2 ^ L.toNat)) d7 := S9
                clear S8
                go_wp2_with fail
                refine (pending_st S9).mono ?_
                rintro r w10 ⟨rfl, S10⟩
                rw [FF.out.1]
                clear S9
                go_wp2_with fail
                refine (ack_st S10).mono ?_
                rintro r w11 ⟨rfl, S11⟩
                rw [FF.out.2.1]
                rw [FF.out.2.2.1] at S11
                clear S10
                go_wp2_with fail
                refine (pending_st S11).mono ?_
                rintro r w12 ⟨rfl, S12⟩
                rw [FF.out.2.2.2]
                go_wp2_with fail
                go_returns
                exact ⟨rfl, S12.B⟩
        ·
          go_wp2_with fail
          go_loopw [9] (fun i wr => ∃ k : Nat, k ≤ 16 ∧ i = .int .i64 k ∧ ∃ c d, St w wr w0.heap.size c d ∧ Msk L.toNat c ∧ Dwn L.toNat k c d) (fun i _ => 16 - (intOf i).toNat)
          case atStart => exact ⟨0, by omega, rfl, _, _, S6, M6, ⟨fun j _ h _ => absurd h (by omega), fun j _ h => absurd h (by omega)⟩⟩
          case round =>
            clear S6 M6
            obtain ⟨i, hi, rfl, c7, d7, S7, M7, D7⟩ := hrel
            by_cases hlt2 : i < 16
            · by_cases hiL : (i : Int) = L
              · have hi2 : i = L.toNat := by omega
                have D8 : Dwn L.toNat (i + 1) c7 d7 := by rw [hi2] at D7 ⊢; exact dwn_skip D7 (by omega)
                clear hi2
                go_wp2_with fail
                go_roundw
                case rel => exact ⟨i + 1, by omega, by go_num, _, _, S7, M7, D8⟩
                case measure => simp [intOf]; omega
              · go_wp2_with fail
                refine (line_st S7 (i : Int) false).mono ?_
                rintro r w8 ⟨rfl, S8⟩
                have M8 := msk_line gL S7.cok M7 (i : Int) false hiL
                have D8 := dwn_step S7.cok S7.dok D7 hlt2 M7
                clear S7 M7 D7
                generalize lnc c7 (i : Int) false = c8 at *
                generalize lnd d7 (i : Int) false = d8 at *
                go_wp2_with fail
                go_roundw
                case rel => exact ⟨i + 1, by omega, by go_num, _, _, S8, M8, D8⟩
                case measure => simp [intOf]; omega
            · have hi16 : i = 16 := by omega
              have D8 : Dwn L.toNat 16 c7 d7 := by rw [hi16] at D7; exact D7
              have F := msk_out gL S7.cok S7.dok M7 D8
              have FF := Lib.hid F
              clear hi16 D7 F M7
              go_wp2_with fail
              refine (line_st S7 L true).mono ?_
              rintro r w8 ⟨rfl, S8⟩
              have ed : lnd d7 L true = d7 := by unfold lnd; rw [if_neg (by omega)]
              rw [ed] at S8
              clear ed S7
              go_wp2_with fail
              refine (out_stv S8 1 _ (255 - 2 ^ L.toNat) (by rcases gL with rfl | rfl | rfl | rfl | rfl | rfl | rfl <;> decide) (by rcases gL with rfl | rfl | rfl | rfl | rfl | rfl | rfl <;> decide)).mono ?_
              rintro r w9 ⟨rfl, S9⟩
              have S9 : St w w9 w0.heap.size (otc (lnc c7 L true) 1 (255 - 2 ^ L.toNat)) d7 := S9
              clear S8
              go_wp2_with fail
              refine (pending_st S9).mono ?_
              rintro r w10 ⟨rfl, S10⟩
              rw [FF.out.1]
              clear S9
              go_wp2_with fail
              refine (ack_st S10).mono ?_
              rintro r w11 ⟨rfl, S11⟩
              rw [FF.out.2.1]
              rw [FF.out.2.2.1] at S11
              clear S10
              go_wp2_with fail
              refine (pending_st S11).mono ?_
              rintro r w12 ⟨rfl, S12⟩
              rw [FF.out.2.2.2]
              go_wp2_with fail
              go_returns
              exact ⟨rfl, S12.B⟩

set_option maxRecDepth 100000 in
set_option maxHeartbeats 8000000 in
theorem walk_none (n : Int) (n0 : IntKind.i64.min ≤ n) (n1 : n ≤ IntKind.i64.max) (w : World) (cap : Nat) (a : Option Addr) :
    Calls Try.prog 4 #[.int .i64 n, .slice a 0 cap] w fun r w' => r = .returned (.bool true) ∧ Below w.heap.size w w' := by
  have n2 : -9223372036854775808 ≤ n := n0
  have n3 : n ≤ 9223372036854775807 := n1
  clear n0 n1
  go_enter Try.func4, Try.ntmps4
  go_wp2_with fail
  refine (awake_any _).mono ?_
  rintro r w0 ⟨rfl, b0⟩
  go_wp2_with fail
  refine (setup_any _).mono ?_
  rintro r w1 ⟨rfl, H1, b1⟩
  have S1 : St w w1 w0.heap.size (setC 32) (setC 40) := .of _ _ _ _ _ H1 (setC_ok _ (by decide)) (setC_ok _ (by decide)) (step_below b0 b1 (Nat.le_refl _)) b0.size
  clear H1 b0 b1
  go_upto_if 19 with (fail)
  go_cut [0] from 10 (fun x wc => ∃ y : Int, x = .int .i64 y ∧ 0 ≤ y ∧ y ≤ 9223372036854775807 ∧ w1 = wc)
  case first =>
    by_cases hl : n < 0
    all_goals
      go_wp2_with fail
      go_meet
      exact ⟨_, rfl, by omega, by omega, rfl⟩
  case rest =>
    obtain ⟨y, rfl, y0, y1, rfl⟩ := hcut
    have ey : y.tmod 8 = y % 8 := Int.tmod_eq_emod_of_nonneg y0
    have y8 : 0 ≤ y % 8 := by omega
    have y9 : y % 8 < 8 := by omega
    go_upto_if 26 with (fail)
    go_cut [0] from 10 (fun x wc => ∃ L : Int, x = .int .i64 L ∧ goodN L ∧ w1 = wc)
    case first =>
      by_cases h2 : y % 8 = 2
      all_goals
        go_wp2_with fail
        go_meet
        refine ⟨_, rfl, ?_, rfl⟩
        unfold goodN
        omega
    case rest =>
      obtain ⟨L, rfl, gL, rfl⟩ := hcut
      have hL0 : 0 ≤ L := by unfold goodN at gL; omega
      have hL1 : L ≤ 7 := by unfold goodN at gL; omega
      go_wp2_with fail
      refine (out_st S1 1 255 (by decide)).mono ?_
      rintro r w2 ⟨rfl, S2⟩
      go_wp2_with fail
      refine (line_st S2 L true).mono ?_
      rintro r w3 ⟨rfl, S3⟩
      have M3 := msk_start gL
      clear S1 S2
      generalize lnc (otc (setC 32) 1 255) L true = c3 at *
      generalize lnd (otd (setC 40) 1 255) L true = d3 at *
      go_wp2_with fail
      go_loopw [7] (fun i wr => ∃ k : Nat, k ≤ 0 ∧ i = .int .i64 k ∧ ∃ c d, St w wr w0.heap.size c d ∧ Msk L.toNat c) (fun i _ => 0 - (intOf i).toNat)
      case atStart => exact ⟨0, by omega, rfl, _, _, S3, M3⟩
      case round =>
        clear S3 M3
        obtain ⟨k, hk, rfl, c6, d6, S6, M6⟩ := hrel
        go_wp2_with fail
        go_loopw [9] (fun i wr => ∃ k : Nat, k ≤ 16 ∧ i = .int .i64 k ∧ ∃ c d, St w wr w0.heap.size c d ∧ Msk L.toNat c ∧ Dwn L.toNat k c d) (fun i _ => 16 - (intOf i).toNat)
        case atStart => exact ⟨0, by omega, rfl, _, _, S6, M6, ⟨fun j _ h _ => absurd h (by omega), fun j _ h => absurd h (by omega)⟩⟩
        case round =>
          clear S6 M6
          obtain ⟨i, hi, rfl, c7, d7, S7, M7, D7⟩ := hrel
          by_cases hlt2 : i < 16
          · by_cases hiL : (i : Int) = L
            · have hi2 : i = L.toNat := by omega
              have D8 : Dwn L.toNat (i + 1) c7 d7 := by rw [hi2] at D7 ⊢; exact dwn_skip D7 (by omega)
              clear hi2
              go_wp2_with fail
              go_roundw
              case rel => exact ⟨i + 1, by omega, by go_num, _, _, S7, M7, D8⟩
              case measure => simp [intOf]; omega
            · go_wp2_with fail
              refine (line_st S7 (i : Int) false).mono ?_
              rintro r w8 ⟨rfl, S8⟩
              have M8 := msk_line gL S7.cok M7 (i : Int) false hiL
              have D8 := dwn_step S7.cok S7.dok D7 hlt2 M7
              clear S7 M7 D7
              generalize lnc c7 (i : Int) false = c8 at *
              generalize lnd d7 (i : Int) false = d8 at *
              go_wp2_with fail
              go_roundw
              case rel => exact ⟨i + 1, by omega, by go_num, _, _, S8, M8, D8⟩
              case measure => simp [intOf]; omega
          · have hi16 : i = 16 := by omega
            have D8 : Dwn L.toNat 16 c7 d7 := by rw [hi16] at D7; exact D7
            have F := msk_out gL S7.cok S7.dok M7 D8
            have FF := Lib.hid F
            clear hi16 D7 F M7
            go_wp2_with fail
            refine (line_st S7 L true).mono ?_
            rintro r w8 ⟨rfl, S8⟩
            have ed : lnd d7 L true = d7 := by unfold lnd; rw [if_neg (by omega)]
            rw [ed] at S8
            clear ed S7
            go_wp2_with fail
            refine (out_stv S8 1 _ (255 - 2 ^ L.toNat) (by rcases gL with rfl | rfl | rfl | rfl | rfl | rfl | rfl <;> decide) (by rcases gL with rfl | rfl | rfl | rfl | rfl | rfl | rfl <;> decide)).mono ?_
            rintro r w9 ⟨rfl, S9⟩
            have S9 : St w w9 w0.heap.size (otc (lnc c7 L true) 1 (255 - 2 ^ L.toNat)) d7 := S9
            clear S8
            go_wp2_with fail
            refine (pending_st S9).mono ?_
            rintro r w10 ⟨rfl, S10⟩
            rw [FF.out.1]
            clear S9
            go_wp2_with fail
            refine (ack_st S10).mono ?_
            rintro r w11 ⟨rfl, S11⟩
            rw [FF.out.2.1]
            rw [FF.out.2.2.1] at S11
            clear S10
            go_wp2_with fail
            refine (pending_st S11).mono ?_
            rintro r w12 ⟨rfl, S12⟩
            rw [FF.out.2.2.2]
            go_wp2_with fail
            go_returns
            exact ⟨rfl, S12.B⟩

set_option maxRecDepth 100000 in
set_option maxHeartbeats 8000000 in
theorem walk (n : Int) (n0 : IntKind.i64.min ≤ n) (n1 : n ≤ IntKind.i64.max) (w : World) (a : Option Addr) (len cap : Nat) (z : Nat → Int) (hlen : len ≤ 9223372036854775807) (J : IntsIn .i64 w a len z) :
    Calls Try.prog 4 #[.int .i64 n, .slice a len cap] w fun r w' => r = .returned (.bool true) ∧ Below w.heap.size w w' := by
  rcases J with rfl | ⟨b, off, rfl, hb, hz⟩
  · exact walk_none n n0 n1 w cap a
  · exact walk_some n n0 n1 w len cap z hlen b off hb hz

set_option maxRecDepth 100000 in
theorem lifted (os : Os) (started : os.Started) (H : Type) (enc : TypeId × Value → H) :
    ReturnsInHanded {} Try.checked os 4 .any (Rows.picMasksSpec.pre6 enc Try.prog Try.f4 Rows.picMasksRow.domain false) (Rows.picMasksSpec.post enc Try.prog Try.f4 false true false false) := by
  refine returnsInHanded_of_change (C := Try.checked) own started (by kernel_rfl) Try.func4
    (ChangeSpec.witness6 (enc := enc) (C := Try.checked) false ⟨#[], #[.int .i64 0, .slice none 0 0], []⟩ 8 (by kernel_rfl) (by kernel_rfl) (by kernel_rfl) (by kernel_rfl)) ?_
  intro W base args ds gs before hval0 hW hcnd _
  have hval : ∀ (j : Nat) t v, Try.f4.params[j]? = some t → args[j]? = some v → Value.okWide Try.prog W .any base t v := hval0
  have hW' := hW
  obtain ⟨p, q, hA0, hV, rfl, hfz, hnd⟩ := hW
  have hA : DataW.TrodAll enc Try.prog W 0 (fun _ => true) true Try.f4.params.toList args.toList ds p := hA0
  rw [Try.params4] at hA hval
  obtain ⟨v0, vs0, d0, ds0, p0, q0, hargs, rfl, rfl, h0, r0⟩ := trodAll_cons hA
  obtain ⟨v1, vs1, d1, ds1, p1, q1, rfl, rfl, rfl, h1, r1⟩ := trodAll_cons r0
  obtain ⟨rfl, rfl, rfl⟩ := trodAll_nil r1
  obtain rfl : args = #[v0, v1] := by cases args; simp_all
  clear hA0 hval0
  obtain ⟨a0, rfl, l0, u0⟩ := arg_int Try.underlying3 (hval 0 3 v0 rfl rfl)
  obtain ⟨a1, n1, c1, z1, rfl, m1, J1⟩ := arg_ints Try.underlying30 Try.underlying3 (by kernel_rfl) (hval 1 30 v1 rfl rfl) h1
  exact law_end (by kernel_rfl) hW' rfl (by kernel_rfl) Try.underlying4 rfl rfl (walk a0 l0 u0 W a1 n1 c1 z1 m1 J1)

theorem proved : Rows.PicMasksSaid :=
  OpenClaim.holds_of_wide 4 Try.f4 rfl rfl rfl rfl rfl rfl rfl ⟨rfl, rfl, rfl, rfl, rfl⟩ rfl rfl rfl rfl rfl (by kernel_rfl) Try.func4 (by kernel_rfl)
    (of_decide_eq_true (by kernel_rfl)) (by unfold Func.isWrapper; first | (rw [if_pos (by decide +kernel)]; kernel_rfl) | (rw [if_neg (by decide +kernel)]; exact ⟨rfl, rfl⟩))
    (fun os started H enc _ => lifted os started H enc)
#print axioms proved
end Go.Proofs.Ytfijohgbgadhiaa.picMasks
