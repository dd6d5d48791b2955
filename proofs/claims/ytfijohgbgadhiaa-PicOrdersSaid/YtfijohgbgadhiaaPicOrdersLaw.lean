/- 'drawloom/drawloomlaw11.PicOrders' answers true for every input. Conditions: none. -/
import Derived.Test.YtfijohgbgadhiaaFrame
import Derived.Test.YtfijohgbgadhiaaPicK
namespace Go.Proofs.Ytfijohgbgadhiaa.picOrders
open Go.ChangeShapes Go.WideShapes Go.ChangeAt Go.RowKit
set_option linter.unusedVariables false

/-- Behind the first i lines of x. -/
structure Upto (x ml mh i : Nat) (c d : Chip) : Prop where
  cm : c.masked = ml
  dm : d.masked = mh
  cs : c.served = 0
  ds : d.served = 0
  ce : c.ends = false
  de : d.ends = false
  cb : c.base = 32
  db : d.base = 40
  ca : ∀ j, j < 8 → c.asks.testBit j = (decide (j < i) && !decide (j = 2) && x.testBit j)
  cu : ∀ j, j < 8 → c.up.testBit j = (decide (j < i) && !decide (j = 2) && x.testBit j)
  da : ∀ j, j < 8 → d.asks.testBit j = (decide (j + 8 < i) && x.testBit (j + 8))
  du : ∀ j, j < 8 → d.up.testBit j = (decide (j + 8 < i) && x.testBit (j + 8))
theorem up_line (c : Chip) (hc : c.ok) (k j : Nat) (hk : k < 8) (hj : j < 8) (up : Bool) (hne : k ≠ j) : (lineC c k up).up.testBit j = c.up.testBit j := by
  have hp : 2 ^ k < 256 := Nat.pow_lt_pow_right (a := 2) (by decide) hk
  cases up
  · show (c.up &&& (255 - 2 ^ k)).testBit j = _
    rw [Nat.testBit_and, bit_not _ _ hp hj, bit_pow k j hk hj, decide_eq_false hne]; simp
  · show (c.up ||| 2 ^ k).testBit j = _
    rw [Nat.testBit_or, bit_pow k j hk hj, decide_eq_false hne]; simp
theorem up_same (c : Chip) (hc : c.ok) (k : Nat) (hk : k < 8) (up : Bool) : (lineC c k up).up.testBit k = up := by
  have hp : 2 ^ k < 256 := Nat.pow_lt_pow_right (a := 2) (by decide) hk
  cases up
  · show (c.up &&& (255 - 2 ^ k)).testBit k = _
    rw [Nat.testBit_and, bit_not _ _ hp hk, bit_pow k k hk hk]; simp
  · show (c.up ||| 2 ^ k).testBit k = _
    rw [Nat.testBit_or, bit_pow k k hk hk]; simp
theorem asks_same (c : Chip) (hc : c.ok) (k : Nat) (hk : k < 8) (up : Bool) (h : c.up.testBit k = false) : (lineC c k up).asks.testBit k = up := by
  cases up
  · exact asks_down c hc k hk
  · exact asks_up c hc k hk (.inr h)
theorem lt_step {j i : Nat} (h : i ≠ j) : decide (j < i + 1) = decide (j < i) := by
  by_cases e : j < i
  · rw [decide_eq_true e, decide_eq_true (by omega)]
  · rw [decide_eq_false e, decide_eq_false (by omega)]
theorem upto_step {x ml mh i : Nat} {c d : Chip} (hc : c.ok) (hd : d.ok) (hi : i < 16) (U : Upto x ml mh i c d) (u : Bool) (hu : u = x.testBit i) : Upto x ml mh (i + 1) (lnc c (i : Int) u) (lnd d (i : Int) u) := by
  have s : ∀ (a : Chip) k, (lineC a k u).masked = a.masked ∧ (lineC a k u).served = a.served ∧ (lineC a k u).ends = a.ends ∧ (lineC a k u).base = a.base := by
    intro a k; unfold lineC; split <;> exact ⟨rfl, rfl, rfl, rfl⟩
  by_cases h8 : i < 8
  · have ed : lnd d (i : Int) u = d := by unfold lnd; rw [if_neg (by omega)]
    by_cases h2 : i = 2
    · have ec : lnc c (i : Int) u = c := by unfold lnc; rw [if_neg (by omega)]
      rw [ec, ed]
      refine ⟨U.cm, U.dm, U.cs, U.ds, U.ce, U.de, U.cb, U.db, ?_, ?_, ?_, ?_⟩
      · intro j hj
        by_cases e : j = 2
        · subst e; rw [U.ca 2 hj]; simp
        · rw [U.ca j hj, lt_step (by omega)]
      · intro j hj
        by_cases e : j = 2
        · subst e; rw [U.cu 2 hj]; simp
        · rw [U.cu j hj, lt_step (by omega)]
      · intro j hj; rw [U.da j hj, lt_step (by omega)]
      · intro j hj; rw [U.du j hj, lt_step (by omega)]
    · have ec : lnc c (i : Int) u = lineC c i u := by unfold lnc; rw [if_pos (by omega), Int.toNat_natCast]
      rw [ec, ed]
      refine ⟨by rw [(s c i).1]; exact U.cm, U.dm, by rw [(s c i).2.1]; exact U.cs, U.ds, by rw [(s c i).2.2.1]; exact U.ce, U.de, by rw [(s c i).2.2.2]; exact U.cb, U.db, ?_, ?_, ?_, ?_⟩
      · intro j hj
        by_cases e : i = j
        · subst e
          rw [asks_same c hc i hj u (by rw [U.cu i hj]; simp), hu]; simp [h2]
        · rw [asks_line c hc i j h8 hj u e, U.ca j hj, lt_step e]
      · intro j hj
        by_cases e : i = j
        · subst e
          rw [up_same c hc i hj u, hu]; simp [h2]
        · rw [up_line c hc i j h8 hj u e, U.cu j hj, lt_step e]
      · intro j hj; rw [U.da j hj, lt_step (by omega)]
      · intro j hj; rw [U.du j hj, lt_step (by omega)]
  · have ec : lnc c (i : Int) u = c := by unfold lnc; rw [if_neg (by omega)]
    have ed : lnd d (i : Int) u = lineC d (i - 8) u := by unfold lnd; rw [if_pos (by omega), Int.toNat_natCast]
    rw [ec, ed]
    refine ⟨U.cm, by rw [(s d _).1]; exact U.dm, U.cs, by rw [(s d _).2.1]; exact U.ds, U.ce, by rw [(s d _).2.2.1]; exact U.de, U.cb, by rw [(s d _).2.2.2]; exact U.db, ?_, ?_, ?_, ?_⟩
    · intro j hj; rw [U.ca j hj, lt_step (by omega)]
    · intro j hj; rw [U.cu j hj, lt_step (by omega)]
    · intro j hj
      by_cases e : i - 8 = j
      · subst e
        rw [asks_same d hd _ hj u (by rw [U.du _ hj, decide_eq_false (by omega)]; rfl), hu, decide_eq_true (by omega : i - 8 + 8 < i + 1), Nat.sub_add_cancel (by omega)]; rfl
      · rw [asks_line d hd _ j (by omega) hj u e, U.da j hj, lt_step (by omega)]
    · intro j hj
      by_cases e : i - 8 = j
      · subst e
        rw [up_same d hd _ hj u, hu, decide_eq_true (by omega : i - 8 + 8 < i + 1), Nat.sub_add_cancel (by omega)]; rfl
      · rw [up_line d hd _ j (by omega) hj u e, U.du j hj, lt_step (by omega)]
theorem inv_start {x ml mh : Nat} {c d : Chip} (U : Upto x ml mh 16 c d) : Inv x (x / 256) ml mh 0 c d := by
  refine ⟨U.cm, U.dm, U.cs, U.ds, U.ce, U.de, U.cb, U.db, ?_, fun j hj j2 h => absurd h (by omega), ?_, fun j hj h => absurd h (by omega)⟩
  · intro j hj j2 _
    rw [U.ca j hj, decide_eq_true (by omega), decide_eq_false j2]; simp
  · intro j hj _
    rw [U.da j hj, decide_eq_true (by omega)]
    have : (x / 256).testBit j = x.testBit (j + 8) := by
      rw [show (256 : Nat) = 2 ^ 8 from rfl, Nat.testBit_div_two_pow]
    rw [this]; simp
theorem upto_start (x ml mh : Nat) : Upto x ml mh 0 (otc (otc (setC 32) 1 ml) 3 mh) (otd (otd (setC 40) 1 ml) 3 mh) := by
  refine ⟨rfl, rfl, rfl, rfl, rfl, rfl, rfl, rfl, ?_, ?_, ?_, ?_⟩ <;> (intro j hj; show (0 : Nat).testBit j = _; simp)

def ordObj : Obj := .cells #[.int .i64 0, .int .i64 1, .int .i64 8, .int .i64 9, .int .i64 10, .int .i64 11, .int .i64 12, .int .i64 13, .int .i64 14, .int .i64 15, .int .i64 3, .int .i64 4, .int .i64 5, .int .i64 6, .int .i64 7] 3
theorem ord_cell {w : World} {b k : Nat} (h : w.heap[b]? = some ordObj) (hk : k < 15) : w.cell? ⟨b, k, none⟩ = some (.int .i64 ((lineAt k : Nat) : Int)) := by
  rw [cell_at h]
  obtain rfl | rfl | rfl | rfl | rfl | rfl | rfl | rfl | rfl | rfl | rfl | rfl | rfl | rfl | rfl : k = 0 ∨ k = 1 ∨ k = 2 ∨ k = 3 ∨ k = 4 ∨ k = 5 ∨ k = 6 ∨ k = 7 ∨ k = 8 ∨ k = 9 ∨ k = 10 ∨ k = 11 ∨ k = 12 ∨ k = 13 ∨ k = 14 := by omega
  all_goals rfl
theorem lineAt_lt {k : Nat} (hk : k < 15) : lineAt k < 16 := by unfold lineAt; (repeat' split) <;> omega
/-- A round: the line does not ask, or is masked; or it is told, once, and ended. -/
def Way (x M k : Nat) (c d : Chip) : Prop :=
  ((x.testBit (lineAt k) = false ∨ M.testBit (lineAt k) = true) ∧ Inv x (x / 256) (M % 256) (M / 256) (k + 1) c d) ∨
  (x.testBit (lineAt k) = true ∧ M.testBit (lineAt k) = false ∧ told0 c d = true ∧ ((vec0 c d : Nat) : Int) = 32 + (lineAt k : Nat) ∧ told0 (tkc c d) (tkd c d) = false ∧
    ((7 < lineAt k ∧ Inv x (x / 256) (M % 256) (M / 256) (k + 1) (otc (otc (tkc c d) 2 32) 0 32) (otd (otd (tkd c d) 2 32) 0 32)) ∨
     (lineAt k ≤ 7 ∧ Inv x (x / 256) (M % 256) (M / 256) (k + 1) (otc (tkc c d) 0 32) (otd (tkd c d) 0 32))))
theorem way {x M k : Nat} {c d : Chip} (I : Inv x (x / 256) (M % 256) (M / 256) k c d) (hc : c.ok) (hd : d.ok) (h2 : (M % 256).testBit 2 = false) (hml : M % 256 < 256) (hmh : M / 256 < 256) (hk : k < 15) : Way x M k c d := by
  have lo : ∀ j, j < 8 → (M % 256).testBit j = M.testBit j := by
    intro j hj
    rw [show (256 : Nat) = 2 ^ 8 from rfl, Nat.testBit_mod_two_pow, decide_eq_true hj]; rfl
  have hi : ∀ y j, (y / 256).testBit j = Nat.testBit y (j + 8) := by
    intro y j
    rw [show (256 : Nat) = 2 ^ 8 from rfl, Nat.testBit_div_two_pow]
  unfold Way
  by_cases hn : lineAt k < 8
  · have n2 : lineAt k ≠ 2 := by unfold lineAt; (repeat' split) <;> omega
    have hkp : k = pc (lineAt k) := by unfold lineAt pc at *; (repeat' split) <;> (repeat' split at hn) <;> omega
    by_cases hs : x.testBit (lineAt k) = true ∧ M.testBit (lineAt k) = false
    · obtain ⟨t1, t2, t3, t4, t5, t6⟩ := take_c I hc hd hml hmh (lineAt k) hn n2 hkp hs.1 (by rw [lo _ hn]; exact hs.2)
      refine .inr ⟨hs.1, hs.2, t1, by rw [t2]; omega, by rw [t4, t3]; exact t5, .inr ⟨by omega, ?_⟩⟩
      rw [t4, t3]; exact t6
    · refine .inl ⟨?_, skip_c I (lineAt k) hn n2 hkp ?_⟩
      · cases h1 : x.testBit (lineAt k)
        · exact .inl rfl
        · cases h3 : M.testBit (lineAt k)
          · exact absurd ⟨h1, h3⟩ hs
          · exact .inr rfl
      · rw [lo _ hn]
        cases h1 : x.testBit (lineAt k)
        · exact .inl rfl
        · cases h3 : M.testBit (lineAt k)
          · exact absurd ⟨h1, h3⟩ hs
          · exact .inr rfl
  · have hkp : k = (lineAt k - 8) + 2 := by unfold lineAt at *; (repeat' split) <;> (repeat' split at hn) <;> omega
    have h16 := lineAt_lt hk
    have e8 : lineAt k - 8 + 8 = lineAt k := by omega
    by_cases hs : x.testBit (lineAt k) = true ∧ M.testBit (lineAt k) = false
    · obtain ⟨t1, t2, t3, t4, t5, t6⟩ := take_d I hc hd h2 hml hmh (lineAt k - 8) (by omega) hkp (by rw [hi, e8]; exact hs.1) (by rw [hi, e8]; exact hs.2)
      refine .inr ⟨hs.1, hs.2, t1, by rw [t2]; omega, by rw [t4, t3]; exact t5, .inl ⟨by omega, ?_⟩⟩
      rw [t4, t3]; exact t6
    · refine .inl ⟨?_, skip_d I (lineAt k - 8) (by omega) hkp ?_⟩
      · cases h1 : x.testBit (lineAt k)
        · exact .inl rfl
        · cases h3 : M.testBit (lineAt k)
          · exact absurd ⟨h1, h3⟩ hs
          · exact .inr rfl
      · rw [hi, hi, e8]
        cases h1 : x.testBit (lineAt k)
        · exact .inl rfl
        · cases h3 : M.testBit (lineAt k)
          · exact absurd ⟨h1, h3⟩ hs
          · exact .inr rfl

set_option maxRecDepth 100000 in
set_option maxHeartbeats 40000000 in
theorem walk (x0 : Int) (x1 : IntKind.u16.min ≤ x0) (x2 : x0 ≤ IntKind.u16.max) (m0 : Int) (m1 : IntKind.u16.min ≤ m0) (m2 : m0 ≤ IntKind.u16.max) (w : World) :
    Calls Try.prog 3 #[.int .u16 x0, .int .u16 m0] w fun r w' => r = .returned (.bool true) ∧ Below w.heap.size w w' := by
  have x3 : 0 ≤ x0 := x1
  have x4 : x0 ≤ 65535 := x2
  have m3 : 0 ≤ m0 := m1
  have m4 : m0 ≤ 65535 := m2
  clear x1 x2 m1 m2
  obtain ⟨x, rfl⟩ := Int.eq_ofNat_of_zero_le x3
  obtain ⟨m, rfl⟩ := Int.eq_ofNat_of_zero_le m3
  have hx : x < 65536 := by omega
  have hm : m < 65536 := by omega
  have em : bits .andNot .u16 (m : Int) 4 = ((m &&& 65531 : Nat) : Int) := u16_andNot_nat m 4 hm (by decide)
  have hM : m &&& 65531 < 65536 := Nat.lt_of_le_of_lt Nat.and_le_left hm
  have hM2 : (m &&& 65531).testBit 2 = false := by rw [Nat.testBit_and, show (65531 : Nat).testBit 2 = false by decide]; simp
  generalize m &&& 65531 = M at *
  have HM2 := Lib.hid hM2
  clear hM2
  go_enter Try.func3, Try.ntmps3
  go_wp2_with fail
  refine (awake_any _).mono ?_
  rintro r w0 ⟨rfl, b0⟩
  go_wp2_with fail
  refine (setup_any _).mono ?_
  rintro r w1 ⟨rfl, H1, b1⟩
  have S1 : St w w1 w0.heap.size (setC 32) (setC 40) := .of _ _ _ _ _ H1 (setC_ok _ (by decide)) (setC_ok _ (by decide)) (step_below b0 b1 (Nat.le_refl _)) b0.size
  clear H1 b0 b1
  go_wp2_with fail
  refine (out_stv S1 1 _ (M % 256) (by omega) (by omega)).mono ?_
  rintro r w2 ⟨rfl, S2⟩
  clear S1
  go_wp2_with fail
  refine (out_stv S2 3 _ (M / 256) (by omega) (by omega)).mono ?_
  rintro r w3 ⟨rfl, S3⟩
  clear S2
  have U3 := upto_start x (M % 256) (M / 256)
  generalize otc (otc (setC 32) 1 (M % 256)) 3 (M / 256) = c3 at *
  generalize otd (otd (setC 40) 1 (M % 256)) 3 (M / 256) = d3 at *
  go_wp2_with fail
  go_loopw [7] (fun i wr => ∃ k : Nat, k ≤ 16 ∧ i = .int .i64 k ∧ ∃ c d, St w wr w0.heap.size c d ∧ Upto x (M % 256) (M / 256) k c d) (fun i _ => 16 - (intOf i).toNat)
  case atStart => exact ⟨0, by omega, rfl, _, _, S3, U3⟩
  case round =>
    clear S3 U3
    obtain ⟨k, hk, rfl, c6, d6, S6, U6⟩ := hrel
    by_cases hlt : k < 16
    · go_wp2_with fail
      refine (line_st S6 _ _).mono ?_
      rintro r w7 ⟨rfl, S7⟩
      have U7 := upto_step S6.cok S6.dok hlt U6 _ (bit_mod x k)
      clear S6 U6
      generalize lnc c6 (k : Int) (((x : Int) / 2 ^ k).tmod 2 == 1) = c7 at *
      generalize lnd d6 (k : Int) (((x : Int) / 2 ^ k).tmod 2 == 1) = d7 at *
      go_wp2_with fail
      go_roundw
      case rel => exact ⟨k + 1, by omega, by go_num, _, _, S7, U7⟩
      case measure => simp [intOf]; omega
    · have hk16 : k = 16 := by omega
      have I6 : Inv x (x / 256) (M % 256) (M / 256) 0 c6 d6 := by rw [hk16] at U6; exact inv_start U6
      clear U6 hk16
      go_wp2_with fail
      obtain ⟨wo, rfl⟩ : ∃ wo : World, wo = wr := ⟨_, rfl⟩
      have HO : (wo.alloc (.cells #[.int .i64 0, .int .i64 1, .int .i64 8, .int .i64 9, .int .i64 10, .int .i64 11, .int .i64 12, .int .i64 13, .int .i64 14, .int .i64 15, .int .i64 3, .int .i64 4, .int .i64 5, .int .i64 6, .int .i64 7] 3)).heap[wo.heap.size]? = some ordObj := heap_new wo _
      have hne : wo.heap.size ≠ w0.heap.size := by have := heap_lt S6.P; omega
      go_loopw [9] (fun i wr => ∃ k : Nat, k ≤ 15 ∧ i = .int .i64 k ∧ wr.heap[wo.heap.size]? = some ordObj ∧ ∃ c d, St w wr w0.heap.size c d ∧ Inv x (x / 256) (M % 256) (M / 256) k c d) (fun i _ => 15 - (intOf i).toNat)
      case atStart => exact ⟨0, by omega, rfl, HO, _, _, S6.alloc _, I6⟩
      case round =>
        clear S6 I6 HO
        obtain ⟨k, hk, rfl, HO, c6, d6, S6, I6⟩ := hrel
        have hml : M % 256 < 256 := by omega
        have hmh : M / 256 < 256 := by omega
        have hm2 : (M % 256).testBit 2 = false := by rw [show (256 : Nat) = 2 ^ 8 from rfl, Nat.testBit_mod_two_pow, HM2.out]; rfl
        have HML := Lib.hid hm2
        clear hm2
        by_cases hlt : k < 15
        · have hcell := ord_cell HO hlt
          have hb1 := lineAt_lt hlt
          have HL := Lib.hid (way I6 S6.cok S6.dok HML.out hml hmh hlt)
          have HB1 := Lib.hid (bit_mod0 x (lineAt k))
          have HB2 := Lib.hid (bit_mod M (lineAt k))
          generalize hn : lineAt k = n at *
          have HN := Lib.hid hn
          clear hn
          have HW := HL.out
          unfold Way at HW
          rw [HN.out] at HW
          clear HL
          rcases HW with ⟨hs, I7⟩ | ⟨h1, h2, t1, t2, t3, hI⟩
          · clear I6
            rcases hs with hx | hM
            · have g0 : (((x : Int) / 2 ^ n).tmod 2 == 0) = true := by rw [HB1.out, hx]; rfl
              clear hx
              go_wp2_with fail
              go_roundw
              case rel => exact ⟨k + 1, by omega, by go_num, HO, _, _, S6, I7⟩
              case measure => simp [intOf]; omega
            · have g1 : (((M : Int) / 2 ^ n).tmod 2 == 1) = true := by rw [HB2.out, hM]
              clear hM
              cases hx : x.testBit n
              · have g0 : (((x : Int) / 2 ^ n).tmod 2 == 0) = true := by rw [HB1.out, hx]; rfl
                clear hx
                go_wp2_with fail
                go_roundw
                case rel => exact ⟨k + 1, by omega, by go_num, HO, _, _, S6, I7⟩
                case measure => simp [intOf]; omega
              · have g0 : (((x : Int) / 2 ^ n).tmod 2 == 0) = false := by rw [HB1.out, hx]; rfl
                clear hx
                go_wp2_with fail
                go_roundw
                case rel => exact ⟨k + 1, by omega, by go_num, HO, _, _, S6, I7⟩
                case measure => simp [intOf]; omega
          · have g0 : (((x : Int) / 2 ^ n).tmod 2 == 0) = false := by rw [HB1.out, h1]; rfl
            have g1 : (((M : Int) / 2 ^ n).tmod 2 == 1) = false := by rw [HB2.out, h2]
            have T1 := Lib.hid t1
            have T2 := Lib.hid t2
            have T3 := Lib.hid t3
            have HI := Lib.hid hI
            clear h1 h2 t1 t2 t3 hI I6
            go_wp2_with fail
            refine (pending_k S6).mono ?_
            rintro r w8 ⟨rfl, S8, k8⟩
            rw [T1.out]
            have HO8 := heap_keeps k8 hne HO
            clear S6 HO k8
            go_wp2_with fail
            refine (ack_k S8).mono ?_
            rintro r w9 ⟨rfl, S9, k9⟩
            rw [T2.out]
            have HO9 := heap_keeps k9 hne HO8
            clear S8 HO8 k9
            go_wp2_with fail
            refine (pending_k S9).mono ?_
            rintro r w10 ⟨rfl, S10, k10⟩
            rw [T3.out]
            have HOa := heap_keeps k10 hne HO9
            clear S9 HO9 k10
            rcases HI.out with ⟨h7, I7⟩ | ⟨h7, I7⟩
            · clear HI
              go_wp2_with fail
              refine (out_k S10 2 32 (by decide)).mono ?_
              rintro r w11 ⟨rfl, S11, k11⟩
              have HOb := heap_keeps k11 hne HOa
              clear S10 HOa k11
              go_wp2_with fail
              refine (out_k S11 0 32 (by decide)).mono ?_
              rintro r w12 ⟨rfl, S12, k12⟩
              have HOc := heap_keeps k12 hne HOb
              clear S11 HOb k12
              go_wp2_with fail
              go_roundw
              case rel => exact ⟨k + 1, by omega, by go_num, HOc, _, _, S12, I7⟩
              case measure => simp [intOf]; omega
            · clear HI
              go_wp2_with fail
              refine (out_k S10 0 32 (by decide)).mono ?_
              rintro r w12 ⟨rfl, S12, k12⟩
              have HOc := heap_keeps k12 hne HOa
              clear S10 HOa k12
              go_wp2_with fail
              go_roundw
              case rel => exact ⟨k + 1, by omega, by go_num, HOc, _, _, S12, I7⟩
              case measure => simp [intOf]; omega
        · have F := at_end I6 S6.cok S6.dok hml hmh (by omega)
          have FF := Lib.hid F
          clear F
          go_wp2_with fail
          refine (pending_st S6).mono ?_
          rintro r w8 ⟨rfl, S8⟩
          rw [FF.out.1]
          go_wp2_with fail
          refine (ack_st S8).mono ?_
          rintro r w9 ⟨rfl, S9⟩
          rw [FF.out.2]
          go_wp2_with fail
          go_returns
          exact ⟨rfl, S9.B⟩

set_option maxRecDepth 100000 in
theorem lifted (os : Os) (started : os.Started) (H : Type) (enc : TypeId × Value → H) :
    ReturnsInHanded {} Try.checked os 3 .any (Rows.picOrdersSpec.pre6 enc Try.prog Try.f3 Rows.picOrdersRow.domain false) (Rows.picOrdersSpec.post enc Try.prog Try.f3 false true false false) := by
  refine returnsInHanded_of_change (C := Try.checked) own started (by kernel_rfl) Try.func3
    (ChangeSpec.witness6 (enc := enc) (C := Try.checked) false ⟨#[], #[.int .u16 0, .int .u16 0], []⟩ 8 (by kernel_rfl) (by kernel_rfl) (by kernel_rfl) (by kernel_rfl)) ?_
  intro W base args ds gs before hval0 hW hcnd _
  have hval : ∀ (j : Nat) t v, Try.f3.params[j]? = some t → args[j]? = some v → Value.okWide Try.prog W .any base t v := hval0
  have hW' := hW
  obtain ⟨p, q, hA0, hV, rfl, hfz, hnd⟩ := hW
  have hA : DataW.TrodAll enc Try.prog W 0 (fun _ => true) true Try.f3.params.toList args.toList ds p := hA0
  rw [Try.params3] at hA hval
  obtain ⟨v0, vs0, d0, ds0, p0, q0, hargs, rfl, rfl, h0, r0⟩ := trodAll_cons hA
  obtain ⟨v1, vs1, d1, ds1, p1, q1, rfl, rfl, rfl, h1, r1⟩ := trodAll_cons r0
  obtain ⟨rfl, rfl, rfl⟩ := trodAll_nil r1
  obtain rfl : args = #[v0, v1] := by cases args; simp_all
  clear hA0 hval0
  obtain ⟨a0, rfl, l0, u0⟩ := arg_int Try.underlying22 (hval 0 22 v0 rfl rfl)
  obtain ⟨a1, rfl, l1, u1⟩ := arg_int Try.underlying22 (hval 1 22 v1 rfl rfl)
  exact law_end (by kernel_rfl) hW' rfl (by kernel_rfl) Try.underlying4 rfl rfl (walk a0 l0 u0 a1 l1 u1 W)

theorem proved : Rows.PicOrdersSaid :=
  OpenClaim.holds_of_wide 3 Try.f3 rfl rfl rfl rfl rfl rfl rfl ⟨rfl, rfl, rfl, rfl, rfl⟩ rfl rfl rfl rfl rfl (by kernel_rfl) Try.func3 (by kernel_rfl)
    (of_decide_eq_true (by kernel_rfl)) (by unfold Func.isWrapper; first | (rw [if_pos (by decide +kernel)]; kernel_rfl) | (rw [if_neg (by decide +kernel)]; exact ⟨rfl, rfl⟩))
    (fun os started H enc _ => lifted os started H enc)
#print axioms proved
end Go.Proofs.Ytfijohgbgadhiaa.picOrders
